/- Layer 2 (huff): slices' stable sort at ints: the merge. -/
import Derived.Test.YtpldapjcojjicaaSi5
import Derived.Test.YtpldapjcojjicaaSt4
namespace Go.Proofs.Ytpldapjcojjicaa.B
open Go.Proofs Go.Shelf Go.RowKit Go.Lib Go.Sort
set_option linter.unusedVariables false
set_option linter.unusedSimpArgs false
variable {α : Type} [Inhabited α]

set_option maxHeartbeats 16000000 in
set_option maxRecDepth 1000000 in
theorem symGen1 (enc : α → Value) (P : Program) (L : P1 P) (cf : α → α → Int) (key : α → Int) (hcf0 : ∀ x y, cf x y < 0 ↔ key x < key y) (g : Nat) (cb : Array Value) (eg : ∀ args w, (callFunc g args).run P w = .ok (.enter g args) w) (w0 W : World) (blk off N cap a m b : Nat) (d0 d : Array α) (R : Row1 enc w0 blk off d0) (hcmp : CmpLays1 P g cb enc cf blk off N w0) (hd0 : d0.size = N) (hd : d.size = N) (S : SW enc w0 blk off d W) (ham : a < m) (hmb : m < b) (hb : b ≤ N) (hN : N < 4611686018427387904) (O1 : SrtOn key d a m) (O2 : SrtOn key d m b) (h1 : m ≠ a + 1) (h2 : b ≠ m + 1) (IH : ∀ (a' m' b' : Nat) (d1 : Array α) (W' : World), b' - a' < b - a → d1.size = N → SW enc w0 blk off d1 W' → a' < m' → m' < b' → b' ≤ N → SrtOn key d1 a' m' → SrtOn key d1 m' b' → ∀ A M B : Int, A = (a' : Int) → M = (m' : Int) → B = (b' : Int) → Calls P 72 #[.slice (some ⟨blk, off, none⟩) N cap, .int .i64 A, .int .i64 M, .int .i64 B, .func (.func g) #[] cb] W' fun e W' => e = .returned (.tuple #[]) ∧ ∃ d', SW enc w0 blk off d' W' ∧ Stp key a' b' d1 d' ∧ SrtOn key d' a' b') :
    Calls P 72 #[.slice (some ⟨blk, off, none⟩) N cap, .int .i64 a, .int .i64 m, .int .i64 b, .func (.func g) #[] cb] W fun e W' => e = .returned (.tuple #[]) ∧ ∃ d', SW enc w0 blk off d' W' ∧ Stp key a b d d' ∧ SrtOn key d' a b := by
  have mixed := L.mixed; have t0 := L.t0; have a0 := L.a0; have z0 := L.z0; have v0 := L.v0; have t3 := L.t3; have a3 := L.a3; have z3 := L.z3; have v3 := L.v3; have t4 := L.t4; have a4 := L.a4; have z4 := L.z4; have v4 := L.v4; have t73 := L.t73; have a73 := L.a73; have z73 := L.z73; have v73 := L.v73; have t51 := L.t51; have a51 := L.a51; have z51 := L.z51; have v51 := L.v51; have t103 := L.t103; have a103 := L.a103; have z103 := L.z103; have v103 := L.v103; have hcl0 := R.hO.cells; simp only [Value.cells] at hcl0; have hst := R.hO.store P; have u51 := run_underlying L.t51; have e72 := L.e72; have e74 := L.e74
  have S0 : Aside (SW enc w0 blk off d W) := S
  have HC : Aside _ := hcmp
  have hcf : Aside _ := hcf0
  have O1 : Aside _ := O1
  have O2 : Aside _ := O2
  have IH : Aside _ := IH
  clear S hcmp hcf0
  have k1 : ((m : Int) - (a : Int) == 1) = false := by simp; omega
  have k2 : ((b : Int) - (m : Int) == 1) = false := by simp; omega
  have H1 : Aside _ := h1
  have H2 : Aside _ := h2
  clear h1 h2
  obtain ⟨mid, hmid⟩ : ∃ mid, mid = (a + b) / 2 := ⟨_, rfl⟩
  have em : ((a : Int) + (b : Int)) / 2 = (mid : Int) := by omega
  by_cases hm : mid < m
  · skip
    have tm : decide ((mid : Int) < (m : Int)) = true := decide_eq_true (by omega)
    have tm' : decide (mid < m) = true := decide_eq_true (by omega)
    have y : Aside (Sym a m b mid (mid + m - b) (mid)) := ⟨ham, hmb, hmid, by rw [if_pos hm], by rw [if_pos hm]⟩
    have yb : b ≤ mid + m ∨ ¬ mid < m := by omega
    have Hmid : Aside _ := hmid
    clear hmid
    have yf := y.out.facts
    have yf1 := yf.1; have yf2 := yf.2.1; have yf3 := yf.2.2.1; have yf4 := yf.2.2.2.1; have yf5 := yf.2.2.2.2.1; have yf6 := yf.2.2.2.2.2.1
    clear yf
    go_enter L.f72, Try.ntmps72
    go_wp2
    clear em
    go_loopg [20, 21, 23] b (fun gh v20 v21 v23 wr => ∃ (s r : Nat), v20 = .int .i64 (s : Int) ∧ v21 = .int .i64 (r : Int) ∧ r - s ≤ gh ∧ Aside (SW enc w0 blk off d wr) ∧ Aside (Srch key d (mid + m - b) (mid) (mid + m - 1) s r))
    case atStart => exact ⟨mid + m - b, mid, by first | rfl | (congr 1; omega), by first | rfl | (congr 1; omega), by omega, S0, Srch.start key d _ _ _ (by omega)⟩
    case round =>
      clear S0
      obtain ⟨s, r, rfl, rfl, hg, S1, X1⟩ := hrel
      have l1 := X1.out.l1; have l2 := X1.out.l2; have l3 := X1.out.l3
      by_cases hc : s < r
      · have hcb : decide ((s : Int) < (r : Int)) = true := decide_eq_true (by omega)
        have hcb' : decide (s < r) = true := decide_eq_true hc
        have yg := y.out.facts.2.2.2.2.2.2 ((s + r) / 2) (by omega) (by omega)
        obtain ⟨yg1, yg2, yg3, yg4⟩ := yg
        have qs0 : ((s : Int) + (r : Int)) / 2 ≤ (mid : Int) + (m : Int) - 1 := by omega
        by_cases hl : key d[mid + m - 1 - (s + r) / 2]! < key d[(s + r) / 2]!
        · have X2 : Aside (Srch key d (mid + m - b) (mid) (mid + m - 1) s ((s + r) / 2)) := X1.out.right y.out rfl O1.out O2.out (by omega) (by omega) hl
          clear X1
          have ea0 : ((mid : Int) + (m : Int) - 1 - ((s : Int) + (r : Int)) / 2).toNat = mid + m - 1 - (s + r) / 2 := by omega
          have pa0 : (0 : Int) ≤ (mid : Int) + (m : Int) - 1 - ((s : Int) + (r : Int)) / 2 := by omega
          have ba0 : (mid : Int) + (m : Int) - 1 - ((s : Int) + (r : Int)) / 2 < (N : Int) := by omega
          have ra0 : IntKind.i64.wrap ((mid : Int) + (m : Int) - 1 - ((s : Int) + (r : Int)) / 2) = (mid : Int) + (m : Int) - 1 - ((s : Int) + (r : Int)) / 2 := by rw [IntKind.wrap_i64]; omega
          have ec0 : (((s : Int) + (r : Int)) / 2).toNat = (s + r) / 2 := by omega
          have pc0 : (0 : Int) ≤ ((s : Int) + (r : Int)) / 2 := by omega
          have bc0 : ((s : Int) + (r : Int)) / 2 < (N : Int) := by omega
          have rc0 : IntKind.i64.wrap (((s : Int) + (r : Int)) / 2) = ((s : Int) + (r : Int)) / 2 := by rw [IntKind.wrap_i64]; omega
          obtain ⟨x0, hx0⟩ : ∃ x, x = d[mid + m - 1 - (s + r) / 2]! := ⟨_, rfl⟩
          obtain ⟨y0, hy0⟩ : ∃ x, x = d[(s + r) / 2]! := ⟨_, rfl⟩
          have la0 := S1.out.cl R (by omega) (mid + m - 1 - (s + r) / 2) (by omega)
          have lb0 := S1.out.cl R (by omega) ((s + r) / 2) (by omega)
          rw [← hx0] at la0
          rw [← hy0] at lb0
          have hc0 := S1.out.cmp HC.out (by omega) x0 y0
          have hd0' : decide (cf x0 y0 < 0) = true := by rw [hx0, hy0]; exact decide_eq_true ((hcf.out _ _).2 hl)
          clear hx0 hy0
          have hv0 := of_decide_eq_true hd0'
          go_wp2_with fail
          go_quiet_grown (first | (go_at_fn g; refine Calls.grown_of (hc0 _ _)))
          have S2 : Aside (SW enc w0 blk off d (grow (wr.drewN nq) osq)) := S1.out.grown nq osq
          clear la0 lb0 hc0 S1
          generalize grow (wr.drewN nq) osq = w2 at S2 ⊢
          clear nq osq
          clear ea0 pa0 ba0 ra0 ec0 pc0 bc0 rc0
          go_wp2
          go_roundg (r - s - 1)
          case measure => omega
          case rel => exact ⟨s, (s + r) / 2, rfl, by first | rfl | (congr 1; omega), by omega, S2, X2⟩
        · have X2 : Aside (Srch key d (mid + m - b) (mid) (mid + m - 1) ((s + r) / 2 + 1) r) := X1.out.left y.out rfl O1.out O2.out (by omega) (by omega) hl
          clear X1
          have ea0 : ((mid : Int) + (m : Int) - 1 - ((s : Int) + (r : Int)) / 2).toNat = mid + m - 1 - (s + r) / 2 := by omega
          have pa0 : (0 : Int) ≤ (mid : Int) + (m : Int) - 1 - ((s : Int) + (r : Int)) / 2 := by omega
          have ba0 : (mid : Int) + (m : Int) - 1 - ((s : Int) + (r : Int)) / 2 < (N : Int) := by omega
          have ra0 : IntKind.i64.wrap ((mid : Int) + (m : Int) - 1 - ((s : Int) + (r : Int)) / 2) = (mid : Int) + (m : Int) - 1 - ((s : Int) + (r : Int)) / 2 := by rw [IntKind.wrap_i64]; omega
          have ec0 : (((s : Int) + (r : Int)) / 2).toNat = (s + r) / 2 := by omega
          have pc0 : (0 : Int) ≤ ((s : Int) + (r : Int)) / 2 := by omega
          have bc0 : ((s : Int) + (r : Int)) / 2 < (N : Int) := by omega
          have rc0 : IntKind.i64.wrap (((s : Int) + (r : Int)) / 2) = ((s : Int) + (r : Int)) / 2 := by rw [IntKind.wrap_i64]; omega
          obtain ⟨x0, hx0⟩ : ∃ x, x = d[mid + m - 1 - (s + r) / 2]! := ⟨_, rfl⟩
          obtain ⟨y0, hy0⟩ : ∃ x, x = d[(s + r) / 2]! := ⟨_, rfl⟩
          have la0 := S1.out.cl R (by omega) (mid + m - 1 - (s + r) / 2) (by omega)
          have lb0 := S1.out.cl R (by omega) ((s + r) / 2) (by omega)
          rw [← hx0] at la0
          rw [← hy0] at lb0
          have hc0 := S1.out.cmp HC.out (by omega) x0 y0
          have hd0' : decide (cf x0 y0 < 0) = false := by rw [hx0, hy0]; exact decide_eq_false (fun h => hl ((hcf.out _ _).1 h))
          clear hx0 hy0
          have hv0 := of_decide_eq_false hd0'
          go_wp2_with fail
          go_quiet_grown (first | (go_at_fn g; refine Calls.grown_of (hc0 _ _)))
          have S2 : Aside (SW enc w0 blk off d (grow (wr.drewN nq) osq)) := S1.out.grown nq osq
          clear la0 lb0 hc0 S1
          generalize grow (wr.drewN nq) osq = w2 at S2 ⊢
          clear nq osq
          clear ea0 pa0 ba0 ra0 ec0 pc0 bc0 rc0
          have rh : IntKind.i64.wrap (((s : Int) + (r : Int)) / 2 + 1) = ((s : Int) + (r : Int)) / 2 + 1 := by rw [IntKind.wrap_i64]; omega
          go_wp2
          go_roundg (r - s - 1)
          case measure => omega
          case rel => exact ⟨(s + r) / 2 + 1, r, by first | rfl | (congr 1; omega), rfl, by omega, S2, X2⟩
      · have hcb : decide ((s : Int) < (r : Int)) = false := decide_eq_false (by omega)
        have hcb' : decide (s < r) = false := decide_eq_false hc
        obtain rfl : s = r := by omega
        have ye := X1.out.ends y.out
        obtain ⟨ye1, ye2, ye3, ye4, ye5, ye6⟩ := ye
        by_cases z0a : s < m
        · by_cases z0b : m < mid + m - s
          · skip
            by_cases z1a : a < s
            · by_cases z1b : s < mid
              · skip
                by_cases z2a : mid < mid + m - s
                · by_cases z2b : mid + m - s < b
                  · skip
                    have t1 : decide ((s : Int) < (m : Int)) = true := decide_eq_true (by omega)
                    have t1n : decide (s < m) = true := decide_eq_true (by omega)
                    have t2 : decide ((m : Int) < (mid : Int) + (m : Int) - (s : Int)) = true := decide_eq_true (by omega)
                    have t3 : decide ((a : Int) < (s : Int)) = true := decide_eq_true (by omega)
                    have t3n : decide (a < s) = true := decide_eq_true (by omega)
                    have t4 : decide ((s : Int) < (mid : Int)) = true := decide_eq_true (by omega)
                    have t4n : decide (s < mid) = true := decide_eq_true (by omega)
                    have t5 : decide ((mid : Int) < (mid : Int) + (m : Int) - (s : Int)) = true := decide_eq_true (by omega)
                    have t6 : decide ((mid : Int) + (m : Int) - (s : Int) < (b : Int)) = true := decide_eq_true (by omega)
                    have tok2 : True := trivial
                    have tok3 : True := trivial
                    go_wp2_with (first | (go_at_call 74; refine (rot1' enc P L w0 _ blk off N cap s m (mid + m - s) d0 d _ R hd0 hd S1.out (by omega) (by omega) (by omega) hN _ _ _ rfl rfl (by omega)).mono ?_; rintro e w1 ⟨rfl, d1, S2, Y0⟩; have S2 : Aside (SW enc w0 blk off d1 w1) := S2; have hd1 : d1.size = N := Y0.size.trans hd; have Y1 : Aside (SymAt key a m b mid s d d1) := X1.out.at y.out rfl O1.out O2.out (by omega) Y0; clear Y0) | (go_at_call 72; have _t := tok2; refine (IH.out a s mid d1 _ (by omega) hd1 S2.out (by omega) (by omega) (by omega) Y1.out.r1 Y1.out.r2 _ _ _ rfl rfl rfl).mono ?_; rintro e w2 ⟨rfl, d2, S3, Z2, Q2⟩; have S3 : Aside (SW enc w0 blk off d2 w2) := S3; have hd2 : d2.size = N := Z2.size.trans hd1; have Z2 : Aside _ := Z2; have Q2 : Aside _ := Q2; clear tok2 _t) | (go_at_call 72; have _t := tok3; refine (IH.out mid (mid + m - s) b d2 _ (by omega) hd2 S3.out (by omega) (by omega) (by omega) (Y1.out.hi1 Z2.out).1 (Y1.out.hi1 Z2.out).2 _ _ _ rfl (by omega) rfl).mono ?_; rintro e w3 ⟨rfl, d3, S4, Z3, Q3⟩; have S4 : Aside (SW enc w0 blk off d3 w3) := S4; have Z3 : Aside _ := Z3; have Q3 : Aside _ := Q3; clear tok3 _t))
                    go_end0
                    exact ⟨rfl, d3, S4.out, Y1.out.fin Z2.out Q2.out Z3.out Q3.out⟩
                  · skip
                    have t1 : decide ((s : Int) < (m : Int)) = true := decide_eq_true (by omega)
                    have t1n : decide (s < m) = true := decide_eq_true (by omega)
                    have t2 : decide ((m : Int) < (mid : Int) + (m : Int) - (s : Int)) = true := decide_eq_true (by omega)
                    have t3 : decide ((a : Int) < (s : Int)) = true := decide_eq_true (by omega)
                    have t3n : decide (a < s) = true := decide_eq_true (by omega)
                    have t4 : decide ((s : Int) < (mid : Int)) = true := decide_eq_true (by omega)
                    have t4n : decide (s < mid) = true := decide_eq_true (by omega)
                    have t5 : decide ((mid : Int) < (mid : Int) + (m : Int) - (s : Int)) = true := decide_eq_true (by omega)
                    have t6 : decide ((mid : Int) + (m : Int) - (s : Int) < (b : Int)) = false := decide_eq_false (by omega)
                    have tok2 : True := trivial
                    have tok3 : True := trivial
                    go_wp2_with (first | (go_at_call 74; refine (rot1' enc P L w0 _ blk off N cap s m (mid + m - s) d0 d _ R hd0 hd S1.out (by omega) (by omega) (by omega) hN _ _ _ rfl rfl (by omega)).mono ?_; rintro e w1 ⟨rfl, d1, S2, Y0⟩; have S2 : Aside (SW enc w0 blk off d1 w1) := S2; have hd1 : d1.size = N := Y0.size.trans hd; have Y1 : Aside (SymAt key a m b mid s d d1) := X1.out.at y.out rfl O1.out O2.out (by omega) Y0; clear Y0) | (go_at_call 72; have _t := tok2; refine (IH.out a s mid d1 _ (by omega) hd1 S2.out (by omega) (by omega) (by omega) Y1.out.r1 Y1.out.r2 _ _ _ rfl rfl rfl).mono ?_; rintro e w2 ⟨rfl, d2, S3, Z2, Q2⟩; have S3 : Aside (SW enc w0 blk off d2 w2) := S3; have hd2 : d2.size = N := Z2.size.trans hd1; have Z2 : Aside _ := Z2; have Q2 : Aside _ := Q2; clear tok2 _t))
                    go_end0
                    exact ⟨rfl, d2, S3.out, Y1.out.fin Z2.out Q2.out (Stp.refl d2) (Y1.out.hi0 Z2.out (by omega))⟩
                · skip
                  have t1 : decide ((s : Int) < (m : Int)) = true := decide_eq_true (by omega)
                  have t1n : decide (s < m) = true := decide_eq_true (by omega)
                  have t2 : decide ((m : Int) < (mid : Int) + (m : Int) - (s : Int)) = true := decide_eq_true (by omega)
                  have t3 : decide ((a : Int) < (s : Int)) = true := decide_eq_true (by omega)
                  have t3n : decide (a < s) = true := decide_eq_true (by omega)
                  have t4 : decide ((s : Int) < (mid : Int)) = true := decide_eq_true (by omega)
                  have t4n : decide (s < mid) = true := decide_eq_true (by omega)
                  have t5 : decide ((mid : Int) < (mid : Int) + (m : Int) - (s : Int)) = false := decide_eq_false (by omega)
                  have tok2 : True := trivial
                  have tok3 : True := trivial
                  go_wp2_with (first | (go_at_call 74; refine (rot1' enc P L w0 _ blk off N cap s m (mid + m - s) d0 d _ R hd0 hd S1.out (by omega) (by omega) (by omega) hN _ _ _ rfl rfl (by omega)).mono ?_; rintro e w1 ⟨rfl, d1, S2, Y0⟩; have S2 : Aside (SW enc w0 blk off d1 w1) := S2; have hd1 : d1.size = N := Y0.size.trans hd; have Y1 : Aside (SymAt key a m b mid s d d1) := X1.out.at y.out rfl O1.out O2.out (by omega) Y0; clear Y0) | (go_at_call 72; have _t := tok2; refine (IH.out a s mid d1 _ (by omega) hd1 S2.out (by omega) (by omega) (by omega) Y1.out.r1 Y1.out.r2 _ _ _ rfl rfl rfl).mono ?_; rintro e w2 ⟨rfl, d2, S3, Z2, Q2⟩; have S3 : Aside (SW enc w0 blk off d2 w2) := S3; have hd2 : d2.size = N := Z2.size.trans hd1; have Z2 : Aside _ := Z2; have Q2 : Aside _ := Q2; clear tok2 _t))
                  go_end0
                  exact ⟨rfl, d2, S3.out, Y1.out.fin Z2.out Q2.out (Stp.refl d2) (Y1.out.hi0 Z2.out (by omega))⟩
              · skip
                by_cases z2a : mid < mid + m - s
                · by_cases z2b : mid + m - s < b
                  · skip
                    have t1 : decide ((s : Int) < (m : Int)) = true := decide_eq_true (by omega)
                    have t1n : decide (s < m) = true := decide_eq_true (by omega)
                    have t2 : decide ((m : Int) < (mid : Int) + (m : Int) - (s : Int)) = true := decide_eq_true (by omega)
                    have t3 : decide ((a : Int) < (s : Int)) = true := decide_eq_true (by omega)
                    have t3n : decide (a < s) = true := decide_eq_true (by omega)
                    have t4 : decide ((s : Int) < (mid : Int)) = false := decide_eq_false (by omega)
                    have t4n : decide (s < mid) = false := decide_eq_false (by omega)
                    have t5 : decide ((mid : Int) < (mid : Int) + (m : Int) - (s : Int)) = true := decide_eq_true (by omega)
                    have t6 : decide ((mid : Int) + (m : Int) - (s : Int) < (b : Int)) = true := decide_eq_true (by omega)
                    have tok2 : True := trivial
                    have tok3 : True := trivial
                    go_wp2_with (first | (go_at_call 74; refine (rot1' enc P L w0 _ blk off N cap s m (mid + m - s) d0 d _ R hd0 hd S1.out (by omega) (by omega) (by omega) hN _ _ _ rfl rfl (by omega)).mono ?_; rintro e w1 ⟨rfl, d1, S2, Y0⟩; have S2 : Aside (SW enc w0 blk off d1 w1) := S2; have hd1 : d1.size = N := Y0.size.trans hd; have Y1 : Aside (SymAt key a m b mid s d d1) := X1.out.at y.out rfl O1.out O2.out (by omega) Y0; clear Y0) | (go_at_call 72; have _t := tok3; refine (IH.out mid (mid + m - s) b d1 _ (by omega) hd1 S2.out (by omega) (by omega) (by omega) (Y1.out.hi1 (Stp.refl d1)).1 (Y1.out.hi1 (Stp.refl d1)).2 _ _ _ rfl (by omega) rfl).mono ?_; rintro e w3 ⟨rfl, d3, S4, Z3, Q3⟩; have S4 : Aside (SW enc w0 blk off d3 w3) := S4; have Z3 : Aside _ := Z3; have Q3 : Aside _ := Q3; clear tok3 _t))
                    go_end0
                    exact ⟨rfl, d3, S4.out, Y1.out.fin (Stp.refl d1) (Y1.out.lo0 (by omega)) Z3.out Q3.out⟩
                  · skip
                    have t1 : decide ((s : Int) < (m : Int)) = true := decide_eq_true (by omega)
                    have t1n : decide (s < m) = true := decide_eq_true (by omega)
                    have t2 : decide ((m : Int) < (mid : Int) + (m : Int) - (s : Int)) = true := decide_eq_true (by omega)
                    have t3 : decide ((a : Int) < (s : Int)) = true := decide_eq_true (by omega)
                    have t3n : decide (a < s) = true := decide_eq_true (by omega)
                    have t4 : decide ((s : Int) < (mid : Int)) = false := decide_eq_false (by omega)
                    have t4n : decide (s < mid) = false := decide_eq_false (by omega)
                    have t5 : decide ((mid : Int) < (mid : Int) + (m : Int) - (s : Int)) = true := decide_eq_true (by omega)
                    have t6 : decide ((mid : Int) + (m : Int) - (s : Int) < (b : Int)) = false := decide_eq_false (by omega)
                    have tok2 : True := trivial
                    have tok3 : True := trivial
                    go_wp2_with (first | (go_at_call 74; refine (rot1' enc P L w0 _ blk off N cap s m (mid + m - s) d0 d _ R hd0 hd S1.out (by omega) (by omega) (by omega) hN _ _ _ rfl rfl (by omega)).mono ?_; rintro e w1 ⟨rfl, d1, S2, Y0⟩; have S2 : Aside (SW enc w0 blk off d1 w1) := S2; have hd1 : d1.size = N := Y0.size.trans hd; have Y1 : Aside (SymAt key a m b mid s d d1) := X1.out.at y.out rfl O1.out O2.out (by omega) Y0; clear Y0))
                    go_end0
                    exact ⟨rfl, d1, S2.out, Y1.out.fin (Stp.refl d1) (Y1.out.lo0 (by omega)) (Stp.refl d1) (Y1.out.hi0 (Stp.refl d1) (by omega))⟩
                · skip
                  have t1 : decide ((s : Int) < (m : Int)) = true := decide_eq_true (by omega)
                  have t1n : decide (s < m) = true := decide_eq_true (by omega)
                  have t2 : decide ((m : Int) < (mid : Int) + (m : Int) - (s : Int)) = true := decide_eq_true (by omega)
                  have t3 : decide ((a : Int) < (s : Int)) = true := decide_eq_true (by omega)
                  have t3n : decide (a < s) = true := decide_eq_true (by omega)
                  have t4 : decide ((s : Int) < (mid : Int)) = false := decide_eq_false (by omega)
                  have t4n : decide (s < mid) = false := decide_eq_false (by omega)
                  have t5 : decide ((mid : Int) < (mid : Int) + (m : Int) - (s : Int)) = false := decide_eq_false (by omega)
                  have tok2 : True := trivial
                  have tok3 : True := trivial
                  go_wp2_with (first | (go_at_call 74; refine (rot1' enc P L w0 _ blk off N cap s m (mid + m - s) d0 d _ R hd0 hd S1.out (by omega) (by omega) (by omega) hN _ _ _ rfl rfl (by omega)).mono ?_; rintro e w1 ⟨rfl, d1, S2, Y0⟩; have S2 : Aside (SW enc w0 blk off d1 w1) := S2; have hd1 : d1.size = N := Y0.size.trans hd; have Y1 : Aside (SymAt key a m b mid s d d1) := X1.out.at y.out rfl O1.out O2.out (by omega) Y0; clear Y0))
                  go_end0
                  exact ⟨rfl, d1, S2.out, Y1.out.fin (Stp.refl d1) (Y1.out.lo0 (by omega)) (Stp.refl d1) (Y1.out.hi0 (Stp.refl d1) (by omega))⟩
            · skip
              by_cases z2a : mid < mid + m - s
              · by_cases z2b : mid + m - s < b
                · skip
                  have t1 : decide ((s : Int) < (m : Int)) = true := decide_eq_true (by omega)
                  have t1n : decide (s < m) = true := decide_eq_true (by omega)
                  have t2 : decide ((m : Int) < (mid : Int) + (m : Int) - (s : Int)) = true := decide_eq_true (by omega)
                  have t3 : decide ((a : Int) < (s : Int)) = false := decide_eq_false (by omega)
                  have t3n : decide (a < s) = false := decide_eq_false (by omega)
                  have t5 : decide ((mid : Int) < (mid : Int) + (m : Int) - (s : Int)) = true := decide_eq_true (by omega)
                  have t6 : decide ((mid : Int) + (m : Int) - (s : Int) < (b : Int)) = true := decide_eq_true (by omega)
                  have tok2 : True := trivial
                  have tok3 : True := trivial
                  go_wp2_with (first | (go_at_call 74; refine (rot1' enc P L w0 _ blk off N cap s m (mid + m - s) d0 d _ R hd0 hd S1.out (by omega) (by omega) (by omega) hN _ _ _ rfl rfl (by omega)).mono ?_; rintro e w1 ⟨rfl, d1, S2, Y0⟩; have S2 : Aside (SW enc w0 blk off d1 w1) := S2; have hd1 : d1.size = N := Y0.size.trans hd; have Y1 : Aside (SymAt key a m b mid s d d1) := X1.out.at y.out rfl O1.out O2.out (by omega) Y0; clear Y0) | (go_at_call 72; have _t := tok3; refine (IH.out mid (mid + m - s) b d1 _ (by omega) hd1 S2.out (by omega) (by omega) (by omega) (Y1.out.hi1 (Stp.refl d1)).1 (Y1.out.hi1 (Stp.refl d1)).2 _ _ _ rfl (by omega) rfl).mono ?_; rintro e w3 ⟨rfl, d3, S4, Z3, Q3⟩; have S4 : Aside (SW enc w0 blk off d3 w3) := S4; have Z3 : Aside _ := Z3; have Q3 : Aside _ := Q3; clear tok3 _t))
                  go_end0
                  exact ⟨rfl, d3, S4.out, Y1.out.fin (Stp.refl d1) (Y1.out.lo0 (by omega)) Z3.out Q3.out⟩
                · skip
                  have t1 : decide ((s : Int) < (m : Int)) = true := decide_eq_true (by omega)
                  have t1n : decide (s < m) = true := decide_eq_true (by omega)
                  have t2 : decide ((m : Int) < (mid : Int) + (m : Int) - (s : Int)) = true := decide_eq_true (by omega)
                  have t3 : decide ((a : Int) < (s : Int)) = false := decide_eq_false (by omega)
                  have t3n : decide (a < s) = false := decide_eq_false (by omega)
                  have t5 : decide ((mid : Int) < (mid : Int) + (m : Int) - (s : Int)) = true := decide_eq_true (by omega)
                  have t6 : decide ((mid : Int) + (m : Int) - (s : Int) < (b : Int)) = false := decide_eq_false (by omega)
                  have tok2 : True := trivial
                  have tok3 : True := trivial
                  go_wp2_with (first | (go_at_call 74; refine (rot1' enc P L w0 _ blk off N cap s m (mid + m - s) d0 d _ R hd0 hd S1.out (by omega) (by omega) (by omega) hN _ _ _ rfl rfl (by omega)).mono ?_; rintro e w1 ⟨rfl, d1, S2, Y0⟩; have S2 : Aside (SW enc w0 blk off d1 w1) := S2; have hd1 : d1.size = N := Y0.size.trans hd; have Y1 : Aside (SymAt key a m b mid s d d1) := X1.out.at y.out rfl O1.out O2.out (by omega) Y0; clear Y0))
                  go_end0
                  exact ⟨rfl, d1, S2.out, Y1.out.fin (Stp.refl d1) (Y1.out.lo0 (by omega)) (Stp.refl d1) (Y1.out.hi0 (Stp.refl d1) (by omega))⟩
              · skip
                have t1 : decide ((s : Int) < (m : Int)) = true := decide_eq_true (by omega)
                have t1n : decide (s < m) = true := decide_eq_true (by omega)
                have t2 : decide ((m : Int) < (mid : Int) + (m : Int) - (s : Int)) = true := decide_eq_true (by omega)
                have t3 : decide ((a : Int) < (s : Int)) = false := decide_eq_false (by omega)
                have t3n : decide (a < s) = false := decide_eq_false (by omega)
                have t5 : decide ((mid : Int) < (mid : Int) + (m : Int) - (s : Int)) = false := decide_eq_false (by omega)
                have tok2 : True := trivial
                have tok3 : True := trivial
                go_wp2_with (first | (go_at_call 74; refine (rot1' enc P L w0 _ blk off N cap s m (mid + m - s) d0 d _ R hd0 hd S1.out (by omega) (by omega) (by omega) hN _ _ _ rfl rfl (by omega)).mono ?_; rintro e w1 ⟨rfl, d1, S2, Y0⟩; have S2 : Aside (SW enc w0 blk off d1 w1) := S2; have hd1 : d1.size = N := Y0.size.trans hd; have Y1 : Aside (SymAt key a m b mid s d d1) := X1.out.at y.out rfl O1.out O2.out (by omega) Y0; clear Y0))
                go_end0
                exact ⟨rfl, d1, S2.out, Y1.out.fin (Stp.refl d1) (Y1.out.lo0 (by omega)) (Stp.refl d1) (Y1.out.hi0 (Stp.refl d1) (by omega))⟩
          · skip
            by_cases z1a : a < s
            · by_cases z1b : s < mid
              · skip
                by_cases z2a : mid < mid + m - s
                · by_cases z2b : mid + m - s < b
                  · skip
                    have t1 : decide ((s : Int) < (m : Int)) = true := decide_eq_true (by omega)
                    have t1n : decide (s < m) = true := decide_eq_true (by omega)
                    have t2 : decide ((m : Int) < (mid : Int) + (m : Int) - (s : Int)) = false := decide_eq_false (by omega)
                    have t3 : decide ((a : Int) < (s : Int)) = true := decide_eq_true (by omega)
                    have t3n : decide (a < s) = true := decide_eq_true (by omega)
                    have t4 : decide ((s : Int) < (mid : Int)) = true := decide_eq_true (by omega)
                    have t4n : decide (s < mid) = true := decide_eq_true (by omega)
                    have t5 : decide ((mid : Int) < (mid : Int) + (m : Int) - (s : Int)) = true := decide_eq_true (by omega)
                    have t6 : decide ((mid : Int) + (m : Int) - (s : Int) < (b : Int)) = true := decide_eq_true (by omega)
                    have Y1 : Aside (SymAt key a m b mid s d d) := X1.out.at0 y.out rfl O1.out O2.out (by omega) (by omega)
                    have tok2 : True := trivial
                    have tok3 : True := trivial
                    go_wp2_with (first | (go_at_call 72; have _t := tok2; refine (IH.out a s mid d _ (by omega) hd S1.out (by omega) (by omega) (by omega) Y1.out.r1 Y1.out.r2 _ _ _ rfl rfl rfl).mono ?_; rintro e w2 ⟨rfl, d2, S3, Z2, Q2⟩; have S3 : Aside (SW enc w0 blk off d2 w2) := S3; have hd2 : d2.size = N := Z2.size.trans hd; have Z2 : Aside _ := Z2; have Q2 : Aside _ := Q2; clear tok2 _t) | (go_at_call 72; have _t := tok3; refine (IH.out mid (mid + m - s) b d2 _ (by omega) hd2 S3.out (by omega) (by omega) (by omega) (Y1.out.hi1 Z2.out).1 (Y1.out.hi1 Z2.out).2 _ _ _ rfl (by omega) rfl).mono ?_; rintro e w3 ⟨rfl, d3, S4, Z3, Q3⟩; have S4 : Aside (SW enc w0 blk off d3 w3) := S4; have Z3 : Aside _ := Z3; have Q3 : Aside _ := Q3; clear tok3 _t))
                    go_end0
                    exact ⟨rfl, d3, S4.out, Y1.out.fin Z2.out Q2.out Z3.out Q3.out⟩
                  · skip
                    have t1 : decide ((s : Int) < (m : Int)) = true := decide_eq_true (by omega)
                    have t1n : decide (s < m) = true := decide_eq_true (by omega)
                    have t2 : decide ((m : Int) < (mid : Int) + (m : Int) - (s : Int)) = false := decide_eq_false (by omega)
                    have t3 : decide ((a : Int) < (s : Int)) = true := decide_eq_true (by omega)
                    have t3n : decide (a < s) = true := decide_eq_true (by omega)
                    have t4 : decide ((s : Int) < (mid : Int)) = true := decide_eq_true (by omega)
                    have t4n : decide (s < mid) = true := decide_eq_true (by omega)
                    have t5 : decide ((mid : Int) < (mid : Int) + (m : Int) - (s : Int)) = true := decide_eq_true (by omega)
                    have t6 : decide ((mid : Int) + (m : Int) - (s : Int) < (b : Int)) = false := decide_eq_false (by omega)
                    have Y1 : Aside (SymAt key a m b mid s d d) := X1.out.at0 y.out rfl O1.out O2.out (by omega) (by omega)
                    have tok2 : True := trivial
                    have tok3 : True := trivial
                    go_wp2_with (first | (go_at_call 72; have _t := tok2; refine (IH.out a s mid d _ (by omega) hd S1.out (by omega) (by omega) (by omega) Y1.out.r1 Y1.out.r2 _ _ _ rfl rfl rfl).mono ?_; rintro e w2 ⟨rfl, d2, S3, Z2, Q2⟩; have S3 : Aside (SW enc w0 blk off d2 w2) := S3; have hd2 : d2.size = N := Z2.size.trans hd; have Z2 : Aside _ := Z2; have Q2 : Aside _ := Q2; clear tok2 _t))
                    go_end0
                    exact ⟨rfl, d2, S3.out, Y1.out.fin Z2.out Q2.out (Stp.refl d2) (Y1.out.hi0 Z2.out (by omega))⟩
                · skip
                  have t1 : decide ((s : Int) < (m : Int)) = true := decide_eq_true (by omega)
                  have t1n : decide (s < m) = true := decide_eq_true (by omega)
                  have t2 : decide ((m : Int) < (mid : Int) + (m : Int) - (s : Int)) = false := decide_eq_false (by omega)
                  have t3 : decide ((a : Int) < (s : Int)) = true := decide_eq_true (by omega)
                  have t3n : decide (a < s) = true := decide_eq_true (by omega)
                  have t4 : decide ((s : Int) < (mid : Int)) = true := decide_eq_true (by omega)
                  have t4n : decide (s < mid) = true := decide_eq_true (by omega)
                  have t5 : decide ((mid : Int) < (mid : Int) + (m : Int) - (s : Int)) = false := decide_eq_false (by omega)
                  have Y1 : Aside (SymAt key a m b mid s d d) := X1.out.at0 y.out rfl O1.out O2.out (by omega) (by omega)
                  have tok2 : True := trivial
                  have tok3 : True := trivial
                  go_wp2_with (first | (go_at_call 72; have _t := tok2; refine (IH.out a s mid d _ (by omega) hd S1.out (by omega) (by omega) (by omega) Y1.out.r1 Y1.out.r2 _ _ _ rfl rfl rfl).mono ?_; rintro e w2 ⟨rfl, d2, S3, Z2, Q2⟩; have S3 : Aside (SW enc w0 blk off d2 w2) := S3; have hd2 : d2.size = N := Z2.size.trans hd; have Z2 : Aside _ := Z2; have Q2 : Aside _ := Q2; clear tok2 _t))
                  go_end0
                  exact ⟨rfl, d2, S3.out, Y1.out.fin Z2.out Q2.out (Stp.refl d2) (Y1.out.hi0 Z2.out (by omega))⟩
              · skip
                by_cases z2a : mid < mid + m - s
                · by_cases z2b : mid + m - s < b
                  · skip
                    have t1 : decide ((s : Int) < (m : Int)) = true := decide_eq_true (by omega)
                    have t1n : decide (s < m) = true := decide_eq_true (by omega)
                    have t2 : decide ((m : Int) < (mid : Int) + (m : Int) - (s : Int)) = false := decide_eq_false (by omega)
                    have t3 : decide ((a : Int) < (s : Int)) = true := decide_eq_true (by omega)
                    have t3n : decide (a < s) = true := decide_eq_true (by omega)
                    have t4 : decide ((s : Int) < (mid : Int)) = false := decide_eq_false (by omega)
                    have t4n : decide (s < mid) = false := decide_eq_false (by omega)
                    have t5 : decide ((mid : Int) < (mid : Int) + (m : Int) - (s : Int)) = true := decide_eq_true (by omega)
                    have t6 : decide ((mid : Int) + (m : Int) - (s : Int) < (b : Int)) = true := decide_eq_true (by omega)
                    have Y1 : Aside (SymAt key a m b mid s d d) := X1.out.at0 y.out rfl O1.out O2.out (by omega) (by omega)
                    have tok2 : True := trivial
                    have tok3 : True := trivial
                    go_wp2_with (first | (go_at_call 72; have _t := tok3; refine (IH.out mid (mid + m - s) b d _ (by omega) hd S1.out (by omega) (by omega) (by omega) (Y1.out.hi1 (Stp.refl d)).1 (Y1.out.hi1 (Stp.refl d)).2 _ _ _ rfl (by omega) rfl).mono ?_; rintro e w3 ⟨rfl, d3, S4, Z3, Q3⟩; have S4 : Aside (SW enc w0 blk off d3 w3) := S4; have Z3 : Aside _ := Z3; have Q3 : Aside _ := Q3; clear tok3 _t))
                    go_end0
                    exact ⟨rfl, d3, S4.out, Y1.out.fin (Stp.refl d) (Y1.out.lo0 (by omega)) Z3.out Q3.out⟩
                  · skip
                    have t1 : decide ((s : Int) < (m : Int)) = true := decide_eq_true (by omega)
                    have t1n : decide (s < m) = true := decide_eq_true (by omega)
                    have t2 : decide ((m : Int) < (mid : Int) + (m : Int) - (s : Int)) = false := decide_eq_false (by omega)
                    have t3 : decide ((a : Int) < (s : Int)) = true := decide_eq_true (by omega)
                    have t3n : decide (a < s) = true := decide_eq_true (by omega)
                    have t4 : decide ((s : Int) < (mid : Int)) = false := decide_eq_false (by omega)
                    have t4n : decide (s < mid) = false := decide_eq_false (by omega)
                    have t5 : decide ((mid : Int) < (mid : Int) + (m : Int) - (s : Int)) = true := decide_eq_true (by omega)
                    have t6 : decide ((mid : Int) + (m : Int) - (s : Int) < (b : Int)) = false := decide_eq_false (by omega)
                    have Y1 : Aside (SymAt key a m b mid s d d) := X1.out.at0 y.out rfl O1.out O2.out (by omega) (by omega)
                    have tok2 : True := trivial
                    have tok3 : True := trivial
                    go_wp2
                    go_end0
                    exact ⟨rfl, d, S1.out, Y1.out.fin (Stp.refl d) (Y1.out.lo0 (by omega)) (Stp.refl d) (Y1.out.hi0 (Stp.refl d) (by omega))⟩
                · skip
                  have t1 : decide ((s : Int) < (m : Int)) = true := decide_eq_true (by omega)
                  have t1n : decide (s < m) = true := decide_eq_true (by omega)
                  have t2 : decide ((m : Int) < (mid : Int) + (m : Int) - (s : Int)) = false := decide_eq_false (by omega)
                  have t3 : decide ((a : Int) < (s : Int)) = true := decide_eq_true (by omega)
                  have t3n : decide (a < s) = true := decide_eq_true (by omega)
                  have t4 : decide ((s : Int) < (mid : Int)) = false := decide_eq_false (by omega)
                  have t4n : decide (s < mid) = false := decide_eq_false (by omega)
                  have t5 : decide ((mid : Int) < (mid : Int) + (m : Int) - (s : Int)) = false := decide_eq_false (by omega)
                  have Y1 : Aside (SymAt key a m b mid s d d) := X1.out.at0 y.out rfl O1.out O2.out (by omega) (by omega)
                  have tok2 : True := trivial
                  have tok3 : True := trivial
                  go_wp2
                  go_end0
                  exact ⟨rfl, d, S1.out, Y1.out.fin (Stp.refl d) (Y1.out.lo0 (by omega)) (Stp.refl d) (Y1.out.hi0 (Stp.refl d) (by omega))⟩
            · skip
              by_cases z2a : mid < mid + m - s
              · by_cases z2b : mid + m - s < b
                · skip
                  have t1 : decide ((s : Int) < (m : Int)) = true := decide_eq_true (by omega)
                  have t1n : decide (s < m) = true := decide_eq_true (by omega)
                  have t2 : decide ((m : Int) < (mid : Int) + (m : Int) - (s : Int)) = false := decide_eq_false (by omega)
                  have t3 : decide ((a : Int) < (s : Int)) = false := decide_eq_false (by omega)
                  have t3n : decide (a < s) = false := decide_eq_false (by omega)
                  have t5 : decide ((mid : Int) < (mid : Int) + (m : Int) - (s : Int)) = true := decide_eq_true (by omega)
                  have t6 : decide ((mid : Int) + (m : Int) - (s : Int) < (b : Int)) = true := decide_eq_true (by omega)
                  have Y1 : Aside (SymAt key a m b mid s d d) := X1.out.at0 y.out rfl O1.out O2.out (by omega) (by omega)
                  have tok2 : True := trivial
                  have tok3 : True := trivial
                  go_wp2_with (first | (go_at_call 72; have _t := tok3; refine (IH.out mid (mid + m - s) b d _ (by omega) hd S1.out (by omega) (by omega) (by omega) (Y1.out.hi1 (Stp.refl d)).1 (Y1.out.hi1 (Stp.refl d)).2 _ _ _ rfl (by omega) rfl).mono ?_; rintro e w3 ⟨rfl, d3, S4, Z3, Q3⟩; have S4 : Aside (SW enc w0 blk off d3 w3) := S4; have Z3 : Aside _ := Z3; have Q3 : Aside _ := Q3; clear tok3 _t))
                  go_end0
                  exact ⟨rfl, d3, S4.out, Y1.out.fin (Stp.refl d) (Y1.out.lo0 (by omega)) Z3.out Q3.out⟩
                · skip
                  have t1 : decide ((s : Int) < (m : Int)) = true := decide_eq_true (by omega)
                  have t1n : decide (s < m) = true := decide_eq_true (by omega)
                  have t2 : decide ((m : Int) < (mid : Int) + (m : Int) - (s : Int)) = false := decide_eq_false (by omega)
                  have t3 : decide ((a : Int) < (s : Int)) = false := decide_eq_false (by omega)
                  have t3n : decide (a < s) = false := decide_eq_false (by omega)
                  have t5 : decide ((mid : Int) < (mid : Int) + (m : Int) - (s : Int)) = true := decide_eq_true (by omega)
                  have t6 : decide ((mid : Int) + (m : Int) - (s : Int) < (b : Int)) = false := decide_eq_false (by omega)
                  have Y1 : Aside (SymAt key a m b mid s d d) := X1.out.at0 y.out rfl O1.out O2.out (by omega) (by omega)
                  have tok2 : True := trivial
                  have tok3 : True := trivial
                  go_wp2
                  go_end0
                  exact ⟨rfl, d, S1.out, Y1.out.fin (Stp.refl d) (Y1.out.lo0 (by omega)) (Stp.refl d) (Y1.out.hi0 (Stp.refl d) (by omega))⟩
              · skip
                have t1 : decide ((s : Int) < (m : Int)) = true := decide_eq_true (by omega)
                have t1n : decide (s < m) = true := decide_eq_true (by omega)
                have t2 : decide ((m : Int) < (mid : Int) + (m : Int) - (s : Int)) = false := decide_eq_false (by omega)
                have t3 : decide ((a : Int) < (s : Int)) = false := decide_eq_false (by omega)
                have t3n : decide (a < s) = false := decide_eq_false (by omega)
                have t5 : decide ((mid : Int) < (mid : Int) + (m : Int) - (s : Int)) = false := decide_eq_false (by omega)
                have Y1 : Aside (SymAt key a m b mid s d d) := X1.out.at0 y.out rfl O1.out O2.out (by omega) (by omega)
                have tok2 : True := trivial
                have tok3 : True := trivial
                go_wp2
                go_end0
                exact ⟨rfl, d, S1.out, Y1.out.fin (Stp.refl d) (Y1.out.lo0 (by omega)) (Stp.refl d) (Y1.out.hi0 (Stp.refl d) (by omega))⟩
        · skip
          by_cases z1a : a < s
          · by_cases z1b : s < mid
            · skip
              by_cases z2a : mid < mid + m - s
              · by_cases z2b : mid + m - s < b
                · skip
                  have t1 : decide ((s : Int) < (m : Int)) = false := decide_eq_false (by omega)
                  have t1n : decide (s < m) = false := decide_eq_false (by omega)
                  have t3 : decide ((a : Int) < (s : Int)) = true := decide_eq_true (by omega)
                  have t3n : decide (a < s) = true := decide_eq_true (by omega)
                  have t4 : decide ((s : Int) < (mid : Int)) = true := decide_eq_true (by omega)
                  have t4n : decide (s < mid) = true := decide_eq_true (by omega)
                  have t5 : decide ((mid : Int) < (mid : Int) + (m : Int) - (s : Int)) = true := decide_eq_true (by omega)
                  have t6 : decide ((mid : Int) + (m : Int) - (s : Int) < (b : Int)) = true := decide_eq_true (by omega)
                  have Y1 : Aside (SymAt key a m b mid s d d) := X1.out.at0 y.out rfl O1.out O2.out (by omega) (by omega)
                  have tok2 : True := trivial
                  have tok3 : True := trivial
                  go_wp2_with (first | (go_at_call 72; have _t := tok2; refine (IH.out a s mid d _ (by omega) hd S1.out (by omega) (by omega) (by omega) Y1.out.r1 Y1.out.r2 _ _ _ rfl rfl rfl).mono ?_; rintro e w2 ⟨rfl, d2, S3, Z2, Q2⟩; have S3 : Aside (SW enc w0 blk off d2 w2) := S3; have hd2 : d2.size = N := Z2.size.trans hd; have Z2 : Aside _ := Z2; have Q2 : Aside _ := Q2; clear tok2 _t) | (go_at_call 72; have _t := tok3; refine (IH.out mid (mid + m - s) b d2 _ (by omega) hd2 S3.out (by omega) (by omega) (by omega) (Y1.out.hi1 Z2.out).1 (Y1.out.hi1 Z2.out).2 _ _ _ rfl (by omega) rfl).mono ?_; rintro e w3 ⟨rfl, d3, S4, Z3, Q3⟩; have S4 : Aside (SW enc w0 blk off d3 w3) := S4; have Z3 : Aside _ := Z3; have Q3 : Aside _ := Q3; clear tok3 _t))
                  go_end0
                  exact ⟨rfl, d3, S4.out, Y1.out.fin Z2.out Q2.out Z3.out Q3.out⟩
                · skip
                  have t1 : decide ((s : Int) < (m : Int)) = false := decide_eq_false (by omega)
                  have t1n : decide (s < m) = false := decide_eq_false (by omega)
                  have t3 : decide ((a : Int) < (s : Int)) = true := decide_eq_true (by omega)
                  have t3n : decide (a < s) = true := decide_eq_true (by omega)
                  have t4 : decide ((s : Int) < (mid : Int)) = true := decide_eq_true (by omega)
                  have t4n : decide (s < mid) = true := decide_eq_true (by omega)
                  have t5 : decide ((mid : Int) < (mid : Int) + (m : Int) - (s : Int)) = true := decide_eq_true (by omega)
                  have t6 : decide ((mid : Int) + (m : Int) - (s : Int) < (b : Int)) = false := decide_eq_false (by omega)
                  have Y1 : Aside (SymAt key a m b mid s d d) := X1.out.at0 y.out rfl O1.out O2.out (by omega) (by omega)
                  have tok2 : True := trivial
                  have tok3 : True := trivial
                  go_wp2_with (first | (go_at_call 72; have _t := tok2; refine (IH.out a s mid d _ (by omega) hd S1.out (by omega) (by omega) (by omega) Y1.out.r1 Y1.out.r2 _ _ _ rfl rfl rfl).mono ?_; rintro e w2 ⟨rfl, d2, S3, Z2, Q2⟩; have S3 : Aside (SW enc w0 blk off d2 w2) := S3; have hd2 : d2.size = N := Z2.size.trans hd; have Z2 : Aside _ := Z2; have Q2 : Aside _ := Q2; clear tok2 _t))
                  go_end0
                  exact ⟨rfl, d2, S3.out, Y1.out.fin Z2.out Q2.out (Stp.refl d2) (Y1.out.hi0 Z2.out (by omega))⟩
              · skip
                have t1 : decide ((s : Int) < (m : Int)) = false := decide_eq_false (by omega)
                have t1n : decide (s < m) = false := decide_eq_false (by omega)
                have t3 : decide ((a : Int) < (s : Int)) = true := decide_eq_true (by omega)
                have t3n : decide (a < s) = true := decide_eq_true (by omega)
                have t4 : decide ((s : Int) < (mid : Int)) = true := decide_eq_true (by omega)
                have t4n : decide (s < mid) = true := decide_eq_true (by omega)
                have t5 : decide ((mid : Int) < (mid : Int) + (m : Int) - (s : Int)) = false := decide_eq_false (by omega)
                have Y1 : Aside (SymAt key a m b mid s d d) := X1.out.at0 y.out rfl O1.out O2.out (by omega) (by omega)
                have tok2 : True := trivial
                have tok3 : True := trivial
                go_wp2_with (first | (go_at_call 72; have _t := tok2; refine (IH.out a s mid d _ (by omega) hd S1.out (by omega) (by omega) (by omega) Y1.out.r1 Y1.out.r2 _ _ _ rfl rfl rfl).mono ?_; rintro e w2 ⟨rfl, d2, S3, Z2, Q2⟩; have S3 : Aside (SW enc w0 blk off d2 w2) := S3; have hd2 : d2.size = N := Z2.size.trans hd; have Z2 : Aside _ := Z2; have Q2 : Aside _ := Q2; clear tok2 _t))
                go_end0
                exact ⟨rfl, d2, S3.out, Y1.out.fin Z2.out Q2.out (Stp.refl d2) (Y1.out.hi0 Z2.out (by omega))⟩
            · skip
              by_cases z2a : mid < mid + m - s
              · by_cases z2b : mid + m - s < b
                · skip
                  have t1 : decide ((s : Int) < (m : Int)) = false := decide_eq_false (by omega)
                  have t1n : decide (s < m) = false := decide_eq_false (by omega)
                  have t3 : decide ((a : Int) < (s : Int)) = true := decide_eq_true (by omega)
                  have t3n : decide (a < s) = true := decide_eq_true (by omega)
                  have t4 : decide ((s : Int) < (mid : Int)) = false := decide_eq_false (by omega)
                  have t4n : decide (s < mid) = false := decide_eq_false (by omega)
                  have t5 : decide ((mid : Int) < (mid : Int) + (m : Int) - (s : Int)) = true := decide_eq_true (by omega)
                  have t6 : decide ((mid : Int) + (m : Int) - (s : Int) < (b : Int)) = true := decide_eq_true (by omega)
                  have Y1 : Aside (SymAt key a m b mid s d d) := X1.out.at0 y.out rfl O1.out O2.out (by omega) (by omega)
                  have tok2 : True := trivial
                  have tok3 : True := trivial
                  go_wp2_with (first | (go_at_call 72; have _t := tok3; refine (IH.out mid (mid + m - s) b d _ (by omega) hd S1.out (by omega) (by omega) (by omega) (Y1.out.hi1 (Stp.refl d)).1 (Y1.out.hi1 (Stp.refl d)).2 _ _ _ rfl (by omega) rfl).mono ?_; rintro e w3 ⟨rfl, d3, S4, Z3, Q3⟩; have S4 : Aside (SW enc w0 blk off d3 w3) := S4; have Z3 : Aside _ := Z3; have Q3 : Aside _ := Q3; clear tok3 _t))
                  go_end0
                  exact ⟨rfl, d3, S4.out, Y1.out.fin (Stp.refl d) (Y1.out.lo0 (by omega)) Z3.out Q3.out⟩
                · skip
                  have t1 : decide ((s : Int) < (m : Int)) = false := decide_eq_false (by omega)
                  have t1n : decide (s < m) = false := decide_eq_false (by omega)
                  have t3 : decide ((a : Int) < (s : Int)) = true := decide_eq_true (by omega)
                  have t3n : decide (a < s) = true := decide_eq_true (by omega)
                  have t4 : decide ((s : Int) < (mid : Int)) = false := decide_eq_false (by omega)
                  have t4n : decide (s < mid) = false := decide_eq_false (by omega)
                  have t5 : decide ((mid : Int) < (mid : Int) + (m : Int) - (s : Int)) = true := decide_eq_true (by omega)
                  have t6 : decide ((mid : Int) + (m : Int) - (s : Int) < (b : Int)) = false := decide_eq_false (by omega)
                  have Y1 : Aside (SymAt key a m b mid s d d) := X1.out.at0 y.out rfl O1.out O2.out (by omega) (by omega)
                  have tok2 : True := trivial
                  have tok3 : True := trivial
                  go_wp2
                  go_end0
                  exact ⟨rfl, d, S1.out, Y1.out.fin (Stp.refl d) (Y1.out.lo0 (by omega)) (Stp.refl d) (Y1.out.hi0 (Stp.refl d) (by omega))⟩
              · skip
                have t1 : decide ((s : Int) < (m : Int)) = false := decide_eq_false (by omega)
                have t1n : decide (s < m) = false := decide_eq_false (by omega)
                have t3 : decide ((a : Int) < (s : Int)) = true := decide_eq_true (by omega)
                have t3n : decide (a < s) = true := decide_eq_true (by omega)
                have t4 : decide ((s : Int) < (mid : Int)) = false := decide_eq_false (by omega)
                have t4n : decide (s < mid) = false := decide_eq_false (by omega)
                have t5 : decide ((mid : Int) < (mid : Int) + (m : Int) - (s : Int)) = false := decide_eq_false (by omega)
                have Y1 : Aside (SymAt key a m b mid s d d) := X1.out.at0 y.out rfl O1.out O2.out (by omega) (by omega)
                have tok2 : True := trivial
                have tok3 : True := trivial
                go_wp2
                go_end0
                exact ⟨rfl, d, S1.out, Y1.out.fin (Stp.refl d) (Y1.out.lo0 (by omega)) (Stp.refl d) (Y1.out.hi0 (Stp.refl d) (by omega))⟩
          · skip
            by_cases z2a : mid < mid + m - s
            · by_cases z2b : mid + m - s < b
              · skip
                have t1 : decide ((s : Int) < (m : Int)) = false := decide_eq_false (by omega)
                have t1n : decide (s < m) = false := decide_eq_false (by omega)
                have t3 : decide ((a : Int) < (s : Int)) = false := decide_eq_false (by omega)
                have t3n : decide (a < s) = false := decide_eq_false (by omega)
                have t5 : decide ((mid : Int) < (mid : Int) + (m : Int) - (s : Int)) = true := decide_eq_true (by omega)
                have t6 : decide ((mid : Int) + (m : Int) - (s : Int) < (b : Int)) = true := decide_eq_true (by omega)
                have Y1 : Aside (SymAt key a m b mid s d d) := X1.out.at0 y.out rfl O1.out O2.out (by omega) (by omega)
                have tok2 : True := trivial
                have tok3 : True := trivial
                go_wp2_with (first | (go_at_call 72; have _t := tok3; refine (IH.out mid (mid + m - s) b d _ (by omega) hd S1.out (by omega) (by omega) (by omega) (Y1.out.hi1 (Stp.refl d)).1 (Y1.out.hi1 (Stp.refl d)).2 _ _ _ rfl (by omega) rfl).mono ?_; rintro e w3 ⟨rfl, d3, S4, Z3, Q3⟩; have S4 : Aside (SW enc w0 blk off d3 w3) := S4; have Z3 : Aside _ := Z3; have Q3 : Aside _ := Q3; clear tok3 _t))
                go_end0
                exact ⟨rfl, d3, S4.out, Y1.out.fin (Stp.refl d) (Y1.out.lo0 (by omega)) Z3.out Q3.out⟩
              · skip
                have t1 : decide ((s : Int) < (m : Int)) = false := decide_eq_false (by omega)
                have t1n : decide (s < m) = false := decide_eq_false (by omega)
                have t3 : decide ((a : Int) < (s : Int)) = false := decide_eq_false (by omega)
                have t3n : decide (a < s) = false := decide_eq_false (by omega)
                have t5 : decide ((mid : Int) < (mid : Int) + (m : Int) - (s : Int)) = true := decide_eq_true (by omega)
                have t6 : decide ((mid : Int) + (m : Int) - (s : Int) < (b : Int)) = false := decide_eq_false (by omega)
                have Y1 : Aside (SymAt key a m b mid s d d) := X1.out.at0 y.out rfl O1.out O2.out (by omega) (by omega)
                have tok2 : True := trivial
                have tok3 : True := trivial
                go_wp2
                go_end0
                exact ⟨rfl, d, S1.out, Y1.out.fin (Stp.refl d) (Y1.out.lo0 (by omega)) (Stp.refl d) (Y1.out.hi0 (Stp.refl d) (by omega))⟩
            · skip
              have t1 : decide ((s : Int) < (m : Int)) = false := decide_eq_false (by omega)
              have t1n : decide (s < m) = false := decide_eq_false (by omega)
              have t3 : decide ((a : Int) < (s : Int)) = false := decide_eq_false (by omega)
              have t3n : decide (a < s) = false := decide_eq_false (by omega)
              have t5 : decide ((mid : Int) < (mid : Int) + (m : Int) - (s : Int)) = false := decide_eq_false (by omega)
              have Y1 : Aside (SymAt key a m b mid s d d) := X1.out.at0 y.out rfl O1.out O2.out (by omega) (by omega)
              have tok2 : True := trivial
              have tok3 : True := trivial
              go_wp2
              go_end0
              exact ⟨rfl, d, S1.out, Y1.out.fin (Stp.refl d) (Y1.out.lo0 (by omega)) (Stp.refl d) (Y1.out.hi0 (Stp.refl d) (by omega))⟩
  · skip
    have tm : decide ((mid : Int) < (m : Int)) = false := decide_eq_false (by omega)
    have tm' : decide (mid < m) = false := decide_eq_false (by omega)
    have y : Aside (Sym a m b mid (a) (m)) := ⟨ham, hmb, hmid, by rw [if_neg hm], by rw [if_neg hm]⟩
    have yb : b ≤ mid + m ∨ ¬ mid < m := by omega
    have Hmid : Aside _ := hmid
    clear hmid
    have yf := y.out.facts
    have yf1 := yf.1; have yf2 := yf.2.1; have yf3 := yf.2.2.1; have yf4 := yf.2.2.2.1; have yf5 := yf.2.2.2.2.1; have yf6 := yf.2.2.2.2.2.1
    clear yf
    go_enter L.f72, Try.ntmps72
    go_wp2
    clear em
    go_loopg [20, 21, 23] b (fun gh v20 v21 v23 wr => ∃ (s r : Nat), v20 = .int .i64 (s : Int) ∧ v21 = .int .i64 (r : Int) ∧ r - s ≤ gh ∧ Aside (SW enc w0 blk off d wr) ∧ Aside (Srch key d (a) (m) (mid + m - 1) s r))
    case atStart => exact ⟨a, m, by first | rfl | (congr 1; omega), by first | rfl | (congr 1; omega), by omega, S0, Srch.start key d _ _ _ (by omega)⟩
    case round =>
      clear S0
      obtain ⟨s, r, rfl, rfl, hg, S1, X1⟩ := hrel
      have l1 := X1.out.l1; have l2 := X1.out.l2; have l3 := X1.out.l3
      by_cases hc : s < r
      · have hcb : decide ((s : Int) < (r : Int)) = true := decide_eq_true (by omega)
        have hcb' : decide (s < r) = true := decide_eq_true hc
        have yg := y.out.facts.2.2.2.2.2.2 ((s + r) / 2) (by omega) (by omega)
        obtain ⟨yg1, yg2, yg3, yg4⟩ := yg
        have qs0 : ((s : Int) + (r : Int)) / 2 ≤ (mid : Int) + (m : Int) - 1 := by omega
        by_cases hl : key d[mid + m - 1 - (s + r) / 2]! < key d[(s + r) / 2]!
        · have X2 : Aside (Srch key d (a) (m) (mid + m - 1) s ((s + r) / 2)) := X1.out.right y.out rfl O1.out O2.out (by omega) (by omega) hl
          clear X1
          have ea0 : ((mid : Int) + (m : Int) - 1 - ((s : Int) + (r : Int)) / 2).toNat = mid + m - 1 - (s + r) / 2 := by omega
          have pa0 : (0 : Int) ≤ (mid : Int) + (m : Int) - 1 - ((s : Int) + (r : Int)) / 2 := by omega
          have ba0 : (mid : Int) + (m : Int) - 1 - ((s : Int) + (r : Int)) / 2 < (N : Int) := by omega
          have ra0 : IntKind.i64.wrap ((mid : Int) + (m : Int) - 1 - ((s : Int) + (r : Int)) / 2) = (mid : Int) + (m : Int) - 1 - ((s : Int) + (r : Int)) / 2 := by rw [IntKind.wrap_i64]; omega
          have ec0 : (((s : Int) + (r : Int)) / 2).toNat = (s + r) / 2 := by omega
          have pc0 : (0 : Int) ≤ ((s : Int) + (r : Int)) / 2 := by omega
          have bc0 : ((s : Int) + (r : Int)) / 2 < (N : Int) := by omega
          have rc0 : IntKind.i64.wrap (((s : Int) + (r : Int)) / 2) = ((s : Int) + (r : Int)) / 2 := by rw [IntKind.wrap_i64]; omega
          obtain ⟨x0, hx0⟩ : ∃ x, x = d[mid + m - 1 - (s + r) / 2]! := ⟨_, rfl⟩
          obtain ⟨y0, hy0⟩ : ∃ x, x = d[(s + r) / 2]! := ⟨_, rfl⟩
          have la0 := S1.out.cl R (by omega) (mid + m - 1 - (s + r) / 2) (by omega)
          have lb0 := S1.out.cl R (by omega) ((s + r) / 2) (by omega)
          rw [← hx0] at la0
          rw [← hy0] at lb0
          have hc0 := S1.out.cmp HC.out (by omega) x0 y0
          have hd0' : decide (cf x0 y0 < 0) = true := by rw [hx0, hy0]; exact decide_eq_true ((hcf.out _ _).2 hl)
          clear hx0 hy0
          have hv0 := of_decide_eq_true hd0'
          go_wp2_with fail
          go_quiet_grown (first | (go_at_fn g; refine Calls.grown_of (hc0 _ _)))
          have S2 : Aside (SW enc w0 blk off d (grow (wr.drewN nq) osq)) := S1.out.grown nq osq
          clear la0 lb0 hc0 S1
          generalize grow (wr.drewN nq) osq = w2 at S2 ⊢
          clear nq osq
          clear ea0 pa0 ba0 ra0 ec0 pc0 bc0 rc0
          go_wp2
          go_roundg (r - s - 1)
          case measure => omega
          case rel => exact ⟨s, (s + r) / 2, rfl, by first | rfl | (congr 1; omega), by omega, S2, X2⟩
        · have X2 : Aside (Srch key d (a) (m) (mid + m - 1) ((s + r) / 2 + 1) r) := X1.out.left y.out rfl O1.out O2.out (by omega) (by omega) hl
          clear X1
          have ea0 : ((mid : Int) + (m : Int) - 1 - ((s : Int) + (r : Int)) / 2).toNat = mid + m - 1 - (s + r) / 2 := by omega
          have pa0 : (0 : Int) ≤ (mid : Int) + (m : Int) - 1 - ((s : Int) + (r : Int)) / 2 := by omega
          have ba0 : (mid : Int) + (m : Int) - 1 - ((s : Int) + (r : Int)) / 2 < (N : Int) := by omega
          have ra0 : IntKind.i64.wrap ((mid : Int) + (m : Int) - 1 - ((s : Int) + (r : Int)) / 2) = (mid : Int) + (m : Int) - 1 - ((s : Int) + (r : Int)) / 2 := by rw [IntKind.wrap_i64]; omega
          have ec0 : (((s : Int) + (r : Int)) / 2).toNat = (s + r) / 2 := by omega
          have pc0 : (0 : Int) ≤ ((s : Int) + (r : Int)) / 2 := by omega
          have bc0 : ((s : Int) + (r : Int)) / 2 < (N : Int) := by omega
          have rc0 : IntKind.i64.wrap (((s : Int) + (r : Int)) / 2) = ((s : Int) + (r : Int)) / 2 := by rw [IntKind.wrap_i64]; omega
          obtain ⟨x0, hx0⟩ : ∃ x, x = d[mid + m - 1 - (s + r) / 2]! := ⟨_, rfl⟩
          obtain ⟨y0, hy0⟩ : ∃ x, x = d[(s + r) / 2]! := ⟨_, rfl⟩
          have la0 := S1.out.cl R (by omega) (mid + m - 1 - (s + r) / 2) (by omega)
          have lb0 := S1.out.cl R (by omega) ((s + r) / 2) (by omega)
          rw [← hx0] at la0
          rw [← hy0] at lb0
          have hc0 := S1.out.cmp HC.out (by omega) x0 y0
          have hd0' : decide (cf x0 y0 < 0) = false := by rw [hx0, hy0]; exact decide_eq_false (fun h => hl ((hcf.out _ _).1 h))
          clear hx0 hy0
          have hv0 := of_decide_eq_false hd0'
          go_wp2_with fail
          go_quiet_grown (first | (go_at_fn g; refine Calls.grown_of (hc0 _ _)))
          have S2 : Aside (SW enc w0 blk off d (grow (wr.drewN nq) osq)) := S1.out.grown nq osq
          clear la0 lb0 hc0 S1
          generalize grow (wr.drewN nq) osq = w2 at S2 ⊢
          clear nq osq
          clear ea0 pa0 ba0 ra0 ec0 pc0 bc0 rc0
          have rh : IntKind.i64.wrap (((s : Int) + (r : Int)) / 2 + 1) = ((s : Int) + (r : Int)) / 2 + 1 := by rw [IntKind.wrap_i64]; omega
          go_wp2
          go_roundg (r - s - 1)
          case measure => omega
          case rel => exact ⟨(s + r) / 2 + 1, r, by first | rfl | (congr 1; omega), rfl, by omega, S2, X2⟩
      · have hcb : decide ((s : Int) < (r : Int)) = false := decide_eq_false (by omega)
        have hcb' : decide (s < r) = false := decide_eq_false hc
        obtain rfl : s = r := by omega
        have ye := X1.out.ends y.out
        obtain ⟨ye1, ye2, ye3, ye4, ye5, ye6⟩ := ye
        by_cases z0a : s < m
        · by_cases z0b : m < mid + m - s
          · skip
            by_cases z1a : a < s
            · by_cases z1b : s < mid
              · skip
                by_cases z2a : mid < mid + m - s
                · by_cases z2b : mid + m - s < b
                  · skip
                    have t1 : decide ((s : Int) < (m : Int)) = true := decide_eq_true (by omega)
                    have t1n : decide (s < m) = true := decide_eq_true (by omega)
                    have t2 : decide ((m : Int) < (mid : Int) + (m : Int) - (s : Int)) = true := decide_eq_true (by omega)
                    have t3 : decide ((a : Int) < (s : Int)) = true := decide_eq_true (by omega)
                    have t3n : decide (a < s) = true := decide_eq_true (by omega)
                    have t4 : decide ((s : Int) < (mid : Int)) = true := decide_eq_true (by omega)
                    have t4n : decide (s < mid) = true := decide_eq_true (by omega)
                    have t5 : decide ((mid : Int) < (mid : Int) + (m : Int) - (s : Int)) = true := decide_eq_true (by omega)
                    have t6 : decide ((mid : Int) + (m : Int) - (s : Int) < (b : Int)) = true := decide_eq_true (by omega)
                    have tok2 : True := trivial
                    have tok3 : True := trivial
                    go_wp2_with (first | (go_at_call 74; refine (rot1' enc P L w0 _ blk off N cap s m (mid + m - s) d0 d _ R hd0 hd S1.out (by omega) (by omega) (by omega) hN _ _ _ rfl rfl (by omega)).mono ?_; rintro e w1 ⟨rfl, d1, S2, Y0⟩; have S2 : Aside (SW enc w0 blk off d1 w1) := S2; have hd1 : d1.size = N := Y0.size.trans hd; have Y1 : Aside (SymAt key a m b mid s d d1) := X1.out.at y.out rfl O1.out O2.out (by omega) Y0; clear Y0) | (go_at_call 72; have _t := tok2; refine (IH.out a s mid d1 _ (by omega) hd1 S2.out (by omega) (by omega) (by omega) Y1.out.r1 Y1.out.r2 _ _ _ rfl rfl rfl).mono ?_; rintro e w2 ⟨rfl, d2, S3, Z2, Q2⟩; have S3 : Aside (SW enc w0 blk off d2 w2) := S3; have hd2 : d2.size = N := Z2.size.trans hd1; have Z2 : Aside _ := Z2; have Q2 : Aside _ := Q2; clear tok2 _t) | (go_at_call 72; have _t := tok3; refine (IH.out mid (mid + m - s) b d2 _ (by omega) hd2 S3.out (by omega) (by omega) (by omega) (Y1.out.hi1 Z2.out).1 (Y1.out.hi1 Z2.out).2 _ _ _ rfl (by omega) rfl).mono ?_; rintro e w3 ⟨rfl, d3, S4, Z3, Q3⟩; have S4 : Aside (SW enc w0 blk off d3 w3) := S4; have Z3 : Aside _ := Z3; have Q3 : Aside _ := Q3; clear tok3 _t))
                    go_end0
                    exact ⟨rfl, d3, S4.out, Y1.out.fin Z2.out Q2.out Z3.out Q3.out⟩
                  · skip
                    have t1 : decide ((s : Int) < (m : Int)) = true := decide_eq_true (by omega)
                    have t1n : decide (s < m) = true := decide_eq_true (by omega)
                    have t2 : decide ((m : Int) < (mid : Int) + (m : Int) - (s : Int)) = true := decide_eq_true (by omega)
                    have t3 : decide ((a : Int) < (s : Int)) = true := decide_eq_true (by omega)
                    have t3n : decide (a < s) = true := decide_eq_true (by omega)
                    have t4 : decide ((s : Int) < (mid : Int)) = true := decide_eq_true (by omega)
                    have t4n : decide (s < mid) = true := decide_eq_true (by omega)
                    have t5 : decide ((mid : Int) < (mid : Int) + (m : Int) - (s : Int)) = true := decide_eq_true (by omega)
                    have t6 : decide ((mid : Int) + (m : Int) - (s : Int) < (b : Int)) = false := decide_eq_false (by omega)
                    have tok2 : True := trivial
                    have tok3 : True := trivial
                    go_wp2_with (first | (go_at_call 74; refine (rot1' enc P L w0 _ blk off N cap s m (mid + m - s) d0 d _ R hd0 hd S1.out (by omega) (by omega) (by omega) hN _ _ _ rfl rfl (by omega)).mono ?_; rintro e w1 ⟨rfl, d1, S2, Y0⟩; have S2 : Aside (SW enc w0 blk off d1 w1) := S2; have hd1 : d1.size = N := Y0.size.trans hd; have Y1 : Aside (SymAt key a m b mid s d d1) := X1.out.at y.out rfl O1.out O2.out (by omega) Y0; clear Y0) | (go_at_call 72; have _t := tok2; refine (IH.out a s mid d1 _ (by omega) hd1 S2.out (by omega) (by omega) (by omega) Y1.out.r1 Y1.out.r2 _ _ _ rfl rfl rfl).mono ?_; rintro e w2 ⟨rfl, d2, S3, Z2, Q2⟩; have S3 : Aside (SW enc w0 blk off d2 w2) := S3; have hd2 : d2.size = N := Z2.size.trans hd1; have Z2 : Aside _ := Z2; have Q2 : Aside _ := Q2; clear tok2 _t))
                    go_end0
                    exact ⟨rfl, d2, S3.out, Y1.out.fin Z2.out Q2.out (Stp.refl d2) (Y1.out.hi0 Z2.out (by omega))⟩
                · skip
                  have t1 : decide ((s : Int) < (m : Int)) = true := decide_eq_true (by omega)
                  have t1n : decide (s < m) = true := decide_eq_true (by omega)
                  have t2 : decide ((m : Int) < (mid : Int) + (m : Int) - (s : Int)) = true := decide_eq_true (by omega)
                  have t3 : decide ((a : Int) < (s : Int)) = true := decide_eq_true (by omega)
                  have t3n : decide (a < s) = true := decide_eq_true (by omega)
                  have t4 : decide ((s : Int) < (mid : Int)) = true := decide_eq_true (by omega)
                  have t4n : decide (s < mid) = true := decide_eq_true (by omega)
                  have t5 : decide ((mid : Int) < (mid : Int) + (m : Int) - (s : Int)) = false := decide_eq_false (by omega)
                  have tok2 : True := trivial
                  have tok3 : True := trivial
                  go_wp2_with (first | (go_at_call 74; refine (rot1' enc P L w0 _ blk off N cap s m (mid + m - s) d0 d _ R hd0 hd S1.out (by omega) (by omega) (by omega) hN _ _ _ rfl rfl (by omega)).mono ?_; rintro e w1 ⟨rfl, d1, S2, Y0⟩; have S2 : Aside (SW enc w0 blk off d1 w1) := S2; have hd1 : d1.size = N := Y0.size.trans hd; have Y1 : Aside (SymAt key a m b mid s d d1) := X1.out.at y.out rfl O1.out O2.out (by omega) Y0; clear Y0) | (go_at_call 72; have _t := tok2; refine (IH.out a s mid d1 _ (by omega) hd1 S2.out (by omega) (by omega) (by omega) Y1.out.r1 Y1.out.r2 _ _ _ rfl rfl rfl).mono ?_; rintro e w2 ⟨rfl, d2, S3, Z2, Q2⟩; have S3 : Aside (SW enc w0 blk off d2 w2) := S3; have hd2 : d2.size = N := Z2.size.trans hd1; have Z2 : Aside _ := Z2; have Q2 : Aside _ := Q2; clear tok2 _t))
                  go_end0
                  exact ⟨rfl, d2, S3.out, Y1.out.fin Z2.out Q2.out (Stp.refl d2) (Y1.out.hi0 Z2.out (by omega))⟩
              · skip
                by_cases z2a : mid < mid + m - s
                · by_cases z2b : mid + m - s < b
                  · skip
                    have t1 : decide ((s : Int) < (m : Int)) = true := decide_eq_true (by omega)
                    have t1n : decide (s < m) = true := decide_eq_true (by omega)
                    have t2 : decide ((m : Int) < (mid : Int) + (m : Int) - (s : Int)) = true := decide_eq_true (by omega)
                    have t3 : decide ((a : Int) < (s : Int)) = true := decide_eq_true (by omega)
                    have t3n : decide (a < s) = true := decide_eq_true (by omega)
                    have t4 : decide ((s : Int) < (mid : Int)) = false := decide_eq_false (by omega)
                    have t4n : decide (s < mid) = false := decide_eq_false (by omega)
                    have t5 : decide ((mid : Int) < (mid : Int) + (m : Int) - (s : Int)) = true := decide_eq_true (by omega)
                    have t6 : decide ((mid : Int) + (m : Int) - (s : Int) < (b : Int)) = true := decide_eq_true (by omega)
                    have tok2 : True := trivial
                    have tok3 : True := trivial
                    go_wp2_with (first | (go_at_call 74; refine (rot1' enc P L w0 _ blk off N cap s m (mid + m - s) d0 d _ R hd0 hd S1.out (by omega) (by omega) (by omega) hN _ _ _ rfl rfl (by omega)).mono ?_; rintro e w1 ⟨rfl, d1, S2, Y0⟩; have S2 : Aside (SW enc w0 blk off d1 w1) := S2; have hd1 : d1.size = N := Y0.size.trans hd; have Y1 : Aside (SymAt key a m b mid s d d1) := X1.out.at y.out rfl O1.out O2.out (by omega) Y0; clear Y0) | (go_at_call 72; have _t := tok3; refine (IH.out mid (mid + m - s) b d1 _ (by omega) hd1 S2.out (by omega) (by omega) (by omega) (Y1.out.hi1 (Stp.refl d1)).1 (Y1.out.hi1 (Stp.refl d1)).2 _ _ _ rfl (by omega) rfl).mono ?_; rintro e w3 ⟨rfl, d3, S4, Z3, Q3⟩; have S4 : Aside (SW enc w0 blk off d3 w3) := S4; have Z3 : Aside _ := Z3; have Q3 : Aside _ := Q3; clear tok3 _t))
                    go_end0
                    exact ⟨rfl, d3, S4.out, Y1.out.fin (Stp.refl d1) (Y1.out.lo0 (by omega)) Z3.out Q3.out⟩
                  · skip
                    have t1 : decide ((s : Int) < (m : Int)) = true := decide_eq_true (by omega)
                    have t1n : decide (s < m) = true := decide_eq_true (by omega)
                    have t2 : decide ((m : Int) < (mid : Int) + (m : Int) - (s : Int)) = true := decide_eq_true (by omega)
                    have t3 : decide ((a : Int) < (s : Int)) = true := decide_eq_true (by omega)
                    have t3n : decide (a < s) = true := decide_eq_true (by omega)
                    have t4 : decide ((s : Int) < (mid : Int)) = false := decide_eq_false (by omega)
                    have t4n : decide (s < mid) = false := decide_eq_false (by omega)
                    have t5 : decide ((mid : Int) < (mid : Int) + (m : Int) - (s : Int)) = true := decide_eq_true (by omega)
                    have t6 : decide ((mid : Int) + (m : Int) - (s : Int) < (b : Int)) = false := decide_eq_false (by omega)
                    have tok2 : True := trivial
                    have tok3 : True := trivial
                    go_wp2_with (first | (go_at_call 74; refine (rot1' enc P L w0 _ blk off N cap s m (mid + m - s) d0 d _ R hd0 hd S1.out (by omega) (by omega) (by omega) hN _ _ _ rfl rfl (by omega)).mono ?_; rintro e w1 ⟨rfl, d1, S2, Y0⟩; have S2 : Aside (SW enc w0 blk off d1 w1) := S2; have hd1 : d1.size = N := Y0.size.trans hd; have Y1 : Aside (SymAt key a m b mid s d d1) := X1.out.at y.out rfl O1.out O2.out (by omega) Y0; clear Y0))
                    go_end0
                    exact ⟨rfl, d1, S2.out, Y1.out.fin (Stp.refl d1) (Y1.out.lo0 (by omega)) (Stp.refl d1) (Y1.out.hi0 (Stp.refl d1) (by omega))⟩
                · skip
                  have t1 : decide ((s : Int) < (m : Int)) = true := decide_eq_true (by omega)
                  have t1n : decide (s < m) = true := decide_eq_true (by omega)
                  have t2 : decide ((m : Int) < (mid : Int) + (m : Int) - (s : Int)) = true := decide_eq_true (by omega)
                  have t3 : decide ((a : Int) < (s : Int)) = true := decide_eq_true (by omega)
                  have t3n : decide (a < s) = true := decide_eq_true (by omega)
                  have t4 : decide ((s : Int) < (mid : Int)) = false := decide_eq_false (by omega)
                  have t4n : decide (s < mid) = false := decide_eq_false (by omega)
                  have t5 : decide ((mid : Int) < (mid : Int) + (m : Int) - (s : Int)) = false := decide_eq_false (by omega)
                  have tok2 : True := trivial
                  have tok3 : True := trivial
                  go_wp2_with (first | (go_at_call 74; refine (rot1' enc P L w0 _ blk off N cap s m (mid + m - s) d0 d _ R hd0 hd S1.out (by omega) (by omega) (by omega) hN _ _ _ rfl rfl (by omega)).mono ?_; rintro e w1 ⟨rfl, d1, S2, Y0⟩; have S2 : Aside (SW enc w0 blk off d1 w1) := S2; have hd1 : d1.size = N := Y0.size.trans hd; have Y1 : Aside (SymAt key a m b mid s d d1) := X1.out.at y.out rfl O1.out O2.out (by omega) Y0; clear Y0))
                  go_end0
                  exact ⟨rfl, d1, S2.out, Y1.out.fin (Stp.refl d1) (Y1.out.lo0 (by omega)) (Stp.refl d1) (Y1.out.hi0 (Stp.refl d1) (by omega))⟩
            · skip
              by_cases z2a : mid < mid + m - s
              · by_cases z2b : mid + m - s < b
                · skip
                  have t1 : decide ((s : Int) < (m : Int)) = true := decide_eq_true (by omega)
                  have t1n : decide (s < m) = true := decide_eq_true (by omega)
                  have t2 : decide ((m : Int) < (mid : Int) + (m : Int) - (s : Int)) = true := decide_eq_true (by omega)
                  have t3 : decide ((a : Int) < (s : Int)) = false := decide_eq_false (by omega)
                  have t3n : decide (a < s) = false := decide_eq_false (by omega)
                  have t5 : decide ((mid : Int) < (mid : Int) + (m : Int) - (s : Int)) = true := decide_eq_true (by omega)
                  have t6 : decide ((mid : Int) + (m : Int) - (s : Int) < (b : Int)) = true := decide_eq_true (by omega)
                  have tok2 : True := trivial
                  have tok3 : True := trivial
                  go_wp2_with (first | (go_at_call 74; refine (rot1' enc P L w0 _ blk off N cap s m (mid + m - s) d0 d _ R hd0 hd S1.out (by omega) (by omega) (by omega) hN _ _ _ rfl rfl (by omega)).mono ?_; rintro e w1 ⟨rfl, d1, S2, Y0⟩; have S2 : Aside (SW enc w0 blk off d1 w1) := S2; have hd1 : d1.size = N := Y0.size.trans hd; have Y1 : Aside (SymAt key a m b mid s d d1) := X1.out.at y.out rfl O1.out O2.out (by omega) Y0; clear Y0) | (go_at_call 72; have _t := tok3; refine (IH.out mid (mid + m - s) b d1 _ (by omega) hd1 S2.out (by omega) (by omega) (by omega) (Y1.out.hi1 (Stp.refl d1)).1 (Y1.out.hi1 (Stp.refl d1)).2 _ _ _ rfl (by omega) rfl).mono ?_; rintro e w3 ⟨rfl, d3, S4, Z3, Q3⟩; have S4 : Aside (SW enc w0 blk off d3 w3) := S4; have Z3 : Aside _ := Z3; have Q3 : Aside _ := Q3; clear tok3 _t))
                  go_end0
                  exact ⟨rfl, d3, S4.out, Y1.out.fin (Stp.refl d1) (Y1.out.lo0 (by omega)) Z3.out Q3.out⟩
                · skip
                  have t1 : decide ((s : Int) < (m : Int)) = true := decide_eq_true (by omega)
                  have t1n : decide (s < m) = true := decide_eq_true (by omega)
                  have t2 : decide ((m : Int) < (mid : Int) + (m : Int) - (s : Int)) = true := decide_eq_true (by omega)
                  have t3 : decide ((a : Int) < (s : Int)) = false := decide_eq_false (by omega)
                  have t3n : decide (a < s) = false := decide_eq_false (by omega)
                  have t5 : decide ((mid : Int) < (mid : Int) + (m : Int) - (s : Int)) = true := decide_eq_true (by omega)
                  have t6 : decide ((mid : Int) + (m : Int) - (s : Int) < (b : Int)) = false := decide_eq_false (by omega)
                  have tok2 : True := trivial
                  have tok3 : True := trivial
                  go_wp2_with (first | (go_at_call 74; refine (rot1' enc P L w0 _ blk off N cap s m (mid + m - s) d0 d _ R hd0 hd S1.out (by omega) (by omega) (by omega) hN _ _ _ rfl rfl (by omega)).mono ?_; rintro e w1 ⟨rfl, d1, S2, Y0⟩; have S2 : Aside (SW enc w0 blk off d1 w1) := S2; have hd1 : d1.size = N := Y0.size.trans hd; have Y1 : Aside (SymAt key a m b mid s d d1) := X1.out.at y.out rfl O1.out O2.out (by omega) Y0; clear Y0))
                  go_end0
                  exact ⟨rfl, d1, S2.out, Y1.out.fin (Stp.refl d1) (Y1.out.lo0 (by omega)) (Stp.refl d1) (Y1.out.hi0 (Stp.refl d1) (by omega))⟩
              · skip
                have t1 : decide ((s : Int) < (m : Int)) = true := decide_eq_true (by omega)
                have t1n : decide (s < m) = true := decide_eq_true (by omega)
                have t2 : decide ((m : Int) < (mid : Int) + (m : Int) - (s : Int)) = true := decide_eq_true (by omega)
                have t3 : decide ((a : Int) < (s : Int)) = false := decide_eq_false (by omega)
                have t3n : decide (a < s) = false := decide_eq_false (by omega)
                have t5 : decide ((mid : Int) < (mid : Int) + (m : Int) - (s : Int)) = false := decide_eq_false (by omega)
                have tok2 : True := trivial
                have tok3 : True := trivial
                go_wp2_with (first | (go_at_call 74; refine (rot1' enc P L w0 _ blk off N cap s m (mid + m - s) d0 d _ R hd0 hd S1.out (by omega) (by omega) (by omega) hN _ _ _ rfl rfl (by omega)).mono ?_; rintro e w1 ⟨rfl, d1, S2, Y0⟩; have S2 : Aside (SW enc w0 blk off d1 w1) := S2; have hd1 : d1.size = N := Y0.size.trans hd; have Y1 : Aside (SymAt key a m b mid s d d1) := X1.out.at y.out rfl O1.out O2.out (by omega) Y0; clear Y0))
                go_end0
                exact ⟨rfl, d1, S2.out, Y1.out.fin (Stp.refl d1) (Y1.out.lo0 (by omega)) (Stp.refl d1) (Y1.out.hi0 (Stp.refl d1) (by omega))⟩
          · skip
            by_cases z1a : a < s
            · by_cases z1b : s < mid
              · skip
                by_cases z2a : mid < mid + m - s
                · by_cases z2b : mid + m - s < b
                  · skip
                    have t1 : decide ((s : Int) < (m : Int)) = true := decide_eq_true (by omega)
                    have t1n : decide (s < m) = true := decide_eq_true (by omega)
                    have t2 : decide ((m : Int) < (mid : Int) + (m : Int) - (s : Int)) = false := decide_eq_false (by omega)
                    have t3 : decide ((a : Int) < (s : Int)) = true := decide_eq_true (by omega)
                    have t3n : decide (a < s) = true := decide_eq_true (by omega)
                    have t4 : decide ((s : Int) < (mid : Int)) = true := decide_eq_true (by omega)
                    have t4n : decide (s < mid) = true := decide_eq_true (by omega)
                    have t5 : decide ((mid : Int) < (mid : Int) + (m : Int) - (s : Int)) = true := decide_eq_true (by omega)
                    have t6 : decide ((mid : Int) + (m : Int) - (s : Int) < (b : Int)) = true := decide_eq_true (by omega)
                    have Y1 : Aside (SymAt key a m b mid s d d) := X1.out.at0 y.out rfl O1.out O2.out (by omega) (by omega)
                    have tok2 : True := trivial
                    have tok3 : True := trivial
                    go_wp2_with (first | (go_at_call 72; have _t := tok2; refine (IH.out a s mid d _ (by omega) hd S1.out (by omega) (by omega) (by omega) Y1.out.r1 Y1.out.r2 _ _ _ rfl rfl rfl).mono ?_; rintro e w2 ⟨rfl, d2, S3, Z2, Q2⟩; have S3 : Aside (SW enc w0 blk off d2 w2) := S3; have hd2 : d2.size = N := Z2.size.trans hd; have Z2 : Aside _ := Z2; have Q2 : Aside _ := Q2; clear tok2 _t) | (go_at_call 72; have _t := tok3; refine (IH.out mid (mid + m - s) b d2 _ (by omega) hd2 S3.out (by omega) (by omega) (by omega) (Y1.out.hi1 Z2.out).1 (Y1.out.hi1 Z2.out).2 _ _ _ rfl (by omega) rfl).mono ?_; rintro e w3 ⟨rfl, d3, S4, Z3, Q3⟩; have S4 : Aside (SW enc w0 blk off d3 w3) := S4; have Z3 : Aside _ := Z3; have Q3 : Aside _ := Q3; clear tok3 _t))
                    go_end0
                    exact ⟨rfl, d3, S4.out, Y1.out.fin Z2.out Q2.out Z3.out Q3.out⟩
                  · skip
                    have t1 : decide ((s : Int) < (m : Int)) = true := decide_eq_true (by omega)
                    have t1n : decide (s < m) = true := decide_eq_true (by omega)
                    have t2 : decide ((m : Int) < (mid : Int) + (m : Int) - (s : Int)) = false := decide_eq_false (by omega)
                    have t3 : decide ((a : Int) < (s : Int)) = true := decide_eq_true (by omega)
                    have t3n : decide (a < s) = true := decide_eq_true (by omega)
                    have t4 : decide ((s : Int) < (mid : Int)) = true := decide_eq_true (by omega)
                    have t4n : decide (s < mid) = true := decide_eq_true (by omega)
                    have t5 : decide ((mid : Int) < (mid : Int) + (m : Int) - (s : Int)) = true := decide_eq_true (by omega)
                    have t6 : decide ((mid : Int) + (m : Int) - (s : Int) < (b : Int)) = false := decide_eq_false (by omega)
                    have Y1 : Aside (SymAt key a m b mid s d d) := X1.out.at0 y.out rfl O1.out O2.out (by omega) (by omega)
                    have tok2 : True := trivial
                    have tok3 : True := trivial
                    go_wp2_with (first | (go_at_call 72; have _t := tok2; refine (IH.out a s mid d _ (by omega) hd S1.out (by omega) (by omega) (by omega) Y1.out.r1 Y1.out.r2 _ _ _ rfl rfl rfl).mono ?_; rintro e w2 ⟨rfl, d2, S3, Z2, Q2⟩; have S3 : Aside (SW enc w0 blk off d2 w2) := S3; have hd2 : d2.size = N := Z2.size.trans hd; have Z2 : Aside _ := Z2; have Q2 : Aside _ := Q2; clear tok2 _t))
                    go_end0
                    exact ⟨rfl, d2, S3.out, Y1.out.fin Z2.out Q2.out (Stp.refl d2) (Y1.out.hi0 Z2.out (by omega))⟩
                · skip
                  have t1 : decide ((s : Int) < (m : Int)) = true := decide_eq_true (by omega)
                  have t1n : decide (s < m) = true := decide_eq_true (by omega)
                  have t2 : decide ((m : Int) < (mid : Int) + (m : Int) - (s : Int)) = false := decide_eq_false (by omega)
                  have t3 : decide ((a : Int) < (s : Int)) = true := decide_eq_true (by omega)
                  have t3n : decide (a < s) = true := decide_eq_true (by omega)
                  have t4 : decide ((s : Int) < (mid : Int)) = true := decide_eq_true (by omega)
                  have t4n : decide (s < mid) = true := decide_eq_true (by omega)
                  have t5 : decide ((mid : Int) < (mid : Int) + (m : Int) - (s : Int)) = false := decide_eq_false (by omega)
                  have Y1 : Aside (SymAt key a m b mid s d d) := X1.out.at0 y.out rfl O1.out O2.out (by omega) (by omega)
                  have tok2 : True := trivial
                  have tok3 : True := trivial
                  go_wp2_with (first | (go_at_call 72; have _t := tok2; refine (IH.out a s mid d _ (by omega) hd S1.out (by omega) (by omega) (by omega) Y1.out.r1 Y1.out.r2 _ _ _ rfl rfl rfl).mono ?_; rintro e w2 ⟨rfl, d2, S3, Z2, Q2⟩; have S3 : Aside (SW enc w0 blk off d2 w2) := S3; have hd2 : d2.size = N := Z2.size.trans hd; have Z2 : Aside _ := Z2; have Q2 : Aside _ := Q2; clear tok2 _t))
                  go_end0
                  exact ⟨rfl, d2, S3.out, Y1.out.fin Z2.out Q2.out (Stp.refl d2) (Y1.out.hi0 Z2.out (by omega))⟩
              · skip
                by_cases z2a : mid < mid + m - s
                · by_cases z2b : mid + m - s < b
                  · skip
                    have t1 : decide ((s : Int) < (m : Int)) = true := decide_eq_true (by omega)
                    have t1n : decide (s < m) = true := decide_eq_true (by omega)
                    have t2 : decide ((m : Int) < (mid : Int) + (m : Int) - (s : Int)) = false := decide_eq_false (by omega)
                    have t3 : decide ((a : Int) < (s : Int)) = true := decide_eq_true (by omega)
                    have t3n : decide (a < s) = true := decide_eq_true (by omega)
                    have t4 : decide ((s : Int) < (mid : Int)) = false := decide_eq_false (by omega)
                    have t4n : decide (s < mid) = false := decide_eq_false (by omega)
                    have t5 : decide ((mid : Int) < (mid : Int) + (m : Int) - (s : Int)) = true := decide_eq_true (by omega)
                    have t6 : decide ((mid : Int) + (m : Int) - (s : Int) < (b : Int)) = true := decide_eq_true (by omega)
                    have Y1 : Aside (SymAt key a m b mid s d d) := X1.out.at0 y.out rfl O1.out O2.out (by omega) (by omega)
                    have tok2 : True := trivial
                    have tok3 : True := trivial
                    go_wp2_with (first | (go_at_call 72; have _t := tok3; refine (IH.out mid (mid + m - s) b d _ (by omega) hd S1.out (by omega) (by omega) (by omega) (Y1.out.hi1 (Stp.refl d)).1 (Y1.out.hi1 (Stp.refl d)).2 _ _ _ rfl (by omega) rfl).mono ?_; rintro e w3 ⟨rfl, d3, S4, Z3, Q3⟩; have S4 : Aside (SW enc w0 blk off d3 w3) := S4; have Z3 : Aside _ := Z3; have Q3 : Aside _ := Q3; clear tok3 _t))
                    go_end0
                    exact ⟨rfl, d3, S4.out, Y1.out.fin (Stp.refl d) (Y1.out.lo0 (by omega)) Z3.out Q3.out⟩
                  · skip
                    have t1 : decide ((s : Int) < (m : Int)) = true := decide_eq_true (by omega)
                    have t1n : decide (s < m) = true := decide_eq_true (by omega)
                    have t2 : decide ((m : Int) < (mid : Int) + (m : Int) - (s : Int)) = false := decide_eq_false (by omega)
                    have t3 : decide ((a : Int) < (s : Int)) = true := decide_eq_true (by omega)
                    have t3n : decide (a < s) = true := decide_eq_true (by omega)
                    have t4 : decide ((s : Int) < (mid : Int)) = false := decide_eq_false (by omega)
                    have t4n : decide (s < mid) = false := decide_eq_false (by omega)
                    have t5 : decide ((mid : Int) < (mid : Int) + (m : Int) - (s : Int)) = true := decide_eq_true (by omega)
                    have t6 : decide ((mid : Int) + (m : Int) - (s : Int) < (b : Int)) = false := decide_eq_false (by omega)
                    have Y1 : Aside (SymAt key a m b mid s d d) := X1.out.at0 y.out rfl O1.out O2.out (by omega) (by omega)
                    have tok2 : True := trivial
                    have tok3 : True := trivial
                    go_wp2
                    go_end0
                    exact ⟨rfl, d, S1.out, Y1.out.fin (Stp.refl d) (Y1.out.lo0 (by omega)) (Stp.refl d) (Y1.out.hi0 (Stp.refl d) (by omega))⟩
                · skip
                  have t1 : decide ((s : Int) < (m : Int)) = true := decide_eq_true (by omega)
                  have t1n : decide (s < m) = true := decide_eq_true (by omega)
                  have t2 : decide ((m : Int) < (mid : Int) + (m : Int) - (s : Int)) = false := decide_eq_false (by omega)
                  have t3 : decide ((a : Int) < (s : Int)) = true := decide_eq_true (by omega)
                  have t3n : decide (a < s) = true := decide_eq_true (by omega)
                  have t4 : decide ((s : Int) < (mid : Int)) = false := decide_eq_false (by omega)
                  have t4n : decide (s < mid) = false := decide_eq_false (by omega)
                  have t5 : decide ((mid : Int) < (mid : Int) + (m : Int) - (s : Int)) = false := decide_eq_false (by omega)
                  have Y1 : Aside (SymAt key a m b mid s d d) := X1.out.at0 y.out rfl O1.out O2.out (by omega) (by omega)
                  have tok2 : True := trivial
                  have tok3 : True := trivial
                  go_wp2
                  go_end0
                  exact ⟨rfl, d, S1.out, Y1.out.fin (Stp.refl d) (Y1.out.lo0 (by omega)) (Stp.refl d) (Y1.out.hi0 (Stp.refl d) (by omega))⟩
            · skip
              by_cases z2a : mid < mid + m - s
              · by_cases z2b : mid + m - s < b
                · skip
                  have t1 : decide ((s : Int) < (m : Int)) = true := decide_eq_true (by omega)
                  have t1n : decide (s < m) = true := decide_eq_true (by omega)
                  have t2 : decide ((m : Int) < (mid : Int) + (m : Int) - (s : Int)) = false := decide_eq_false (by omega)
                  have t3 : decide ((a : Int) < (s : Int)) = false := decide_eq_false (by omega)
                  have t3n : decide (a < s) = false := decide_eq_false (by omega)
                  have t5 : decide ((mid : Int) < (mid : Int) + (m : Int) - (s : Int)) = true := decide_eq_true (by omega)
                  have t6 : decide ((mid : Int) + (m : Int) - (s : Int) < (b : Int)) = true := decide_eq_true (by omega)
                  have Y1 : Aside (SymAt key a m b mid s d d) := X1.out.at0 y.out rfl O1.out O2.out (by omega) (by omega)
                  have tok2 : True := trivial
                  have tok3 : True := trivial
                  go_wp2_with (first | (go_at_call 72; have _t := tok3; refine (IH.out mid (mid + m - s) b d _ (by omega) hd S1.out (by omega) (by omega) (by omega) (Y1.out.hi1 (Stp.refl d)).1 (Y1.out.hi1 (Stp.refl d)).2 _ _ _ rfl (by omega) rfl).mono ?_; rintro e w3 ⟨rfl, d3, S4, Z3, Q3⟩; have S4 : Aside (SW enc w0 blk off d3 w3) := S4; have Z3 : Aside _ := Z3; have Q3 : Aside _ := Q3; clear tok3 _t))
                  go_end0
                  exact ⟨rfl, d3, S4.out, Y1.out.fin (Stp.refl d) (Y1.out.lo0 (by omega)) Z3.out Q3.out⟩
                · skip
                  have t1 : decide ((s : Int) < (m : Int)) = true := decide_eq_true (by omega)
                  have t1n : decide (s < m) = true := decide_eq_true (by omega)
                  have t2 : decide ((m : Int) < (mid : Int) + (m : Int) - (s : Int)) = false := decide_eq_false (by omega)
                  have t3 : decide ((a : Int) < (s : Int)) = false := decide_eq_false (by omega)
                  have t3n : decide (a < s) = false := decide_eq_false (by omega)
                  have t5 : decide ((mid : Int) < (mid : Int) + (m : Int) - (s : Int)) = true := decide_eq_true (by omega)
                  have t6 : decide ((mid : Int) + (m : Int) - (s : Int) < (b : Int)) = false := decide_eq_false (by omega)
                  have Y1 : Aside (SymAt key a m b mid s d d) := X1.out.at0 y.out rfl O1.out O2.out (by omega) (by omega)
                  have tok2 : True := trivial
                  have tok3 : True := trivial
                  go_wp2
                  go_end0
                  exact ⟨rfl, d, S1.out, Y1.out.fin (Stp.refl d) (Y1.out.lo0 (by omega)) (Stp.refl d) (Y1.out.hi0 (Stp.refl d) (by omega))⟩
              · skip
                have t1 : decide ((s : Int) < (m : Int)) = true := decide_eq_true (by omega)
                have t1n : decide (s < m) = true := decide_eq_true (by omega)
                have t2 : decide ((m : Int) < (mid : Int) + (m : Int) - (s : Int)) = false := decide_eq_false (by omega)
                have t3 : decide ((a : Int) < (s : Int)) = false := decide_eq_false (by omega)
                have t3n : decide (a < s) = false := decide_eq_false (by omega)
                have t5 : decide ((mid : Int) < (mid : Int) + (m : Int) - (s : Int)) = false := decide_eq_false (by omega)
                have Y1 : Aside (SymAt key a m b mid s d d) := X1.out.at0 y.out rfl O1.out O2.out (by omega) (by omega)
                have tok2 : True := trivial
                have tok3 : True := trivial
                go_wp2
                go_end0
                exact ⟨rfl, d, S1.out, Y1.out.fin (Stp.refl d) (Y1.out.lo0 (by omega)) (Stp.refl d) (Y1.out.hi0 (Stp.refl d) (by omega))⟩
        · skip
          by_cases z1a : a < s
          · by_cases z1b : s < mid
            · skip
              by_cases z2a : mid < mid + m - s
              · by_cases z2b : mid + m - s < b
                · skip
                  have t1 : decide ((s : Int) < (m : Int)) = false := decide_eq_false (by omega)
                  have t1n : decide (s < m) = false := decide_eq_false (by omega)
                  have t3 : decide ((a : Int) < (s : Int)) = true := decide_eq_true (by omega)
                  have t3n : decide (a < s) = true := decide_eq_true (by omega)
                  have t4 : decide ((s : Int) < (mid : Int)) = true := decide_eq_true (by omega)
                  have t4n : decide (s < mid) = true := decide_eq_true (by omega)
                  have t5 : decide ((mid : Int) < (mid : Int) + (m : Int) - (s : Int)) = true := decide_eq_true (by omega)
                  have t6 : decide ((mid : Int) + (m : Int) - (s : Int) < (b : Int)) = true := decide_eq_true (by omega)
                  have Y1 : Aside (SymAt key a m b mid s d d) := X1.out.at0 y.out rfl O1.out O2.out (by omega) (by omega)
                  have tok2 : True := trivial
                  have tok3 : True := trivial
                  go_wp2_with (first | (go_at_call 72; have _t := tok2; refine (IH.out a s mid d _ (by omega) hd S1.out (by omega) (by omega) (by omega) Y1.out.r1 Y1.out.r2 _ _ _ rfl rfl rfl).mono ?_; rintro e w2 ⟨rfl, d2, S3, Z2, Q2⟩; have S3 : Aside (SW enc w0 blk off d2 w2) := S3; have hd2 : d2.size = N := Z2.size.trans hd; have Z2 : Aside _ := Z2; have Q2 : Aside _ := Q2; clear tok2 _t) | (go_at_call 72; have _t := tok3; refine (IH.out mid (mid + m - s) b d2 _ (by omega) hd2 S3.out (by omega) (by omega) (by omega) (Y1.out.hi1 Z2.out).1 (Y1.out.hi1 Z2.out).2 _ _ _ rfl (by omega) rfl).mono ?_; rintro e w3 ⟨rfl, d3, S4, Z3, Q3⟩; have S4 : Aside (SW enc w0 blk off d3 w3) := S4; have Z3 : Aside _ := Z3; have Q3 : Aside _ := Q3; clear tok3 _t))
                  go_end0
                  exact ⟨rfl, d3, S4.out, Y1.out.fin Z2.out Q2.out Z3.out Q3.out⟩
                · skip
                  have t1 : decide ((s : Int) < (m : Int)) = false := decide_eq_false (by omega)
                  have t1n : decide (s < m) = false := decide_eq_false (by omega)
                  have t3 : decide ((a : Int) < (s : Int)) = true := decide_eq_true (by omega)
                  have t3n : decide (a < s) = true := decide_eq_true (by omega)
                  have t4 : decide ((s : Int) < (mid : Int)) = true := decide_eq_true (by omega)
                  have t4n : decide (s < mid) = true := decide_eq_true (by omega)
                  have t5 : decide ((mid : Int) < (mid : Int) + (m : Int) - (s : Int)) = true := decide_eq_true (by omega)
                  have t6 : decide ((mid : Int) + (m : Int) - (s : Int) < (b : Int)) = false := decide_eq_false (by omega)
                  have Y1 : Aside (SymAt key a m b mid s d d) := X1.out.at0 y.out rfl O1.out O2.out (by omega) (by omega)
                  have tok2 : True := trivial
                  have tok3 : True := trivial
                  go_wp2_with (first | (go_at_call 72; have _t := tok2; refine (IH.out a s mid d _ (by omega) hd S1.out (by omega) (by omega) (by omega) Y1.out.r1 Y1.out.r2 _ _ _ rfl rfl rfl).mono ?_; rintro e w2 ⟨rfl, d2, S3, Z2, Q2⟩; have S3 : Aside (SW enc w0 blk off d2 w2) := S3; have hd2 : d2.size = N := Z2.size.trans hd; have Z2 : Aside _ := Z2; have Q2 : Aside _ := Q2; clear tok2 _t))
                  go_end0
                  exact ⟨rfl, d2, S3.out, Y1.out.fin Z2.out Q2.out (Stp.refl d2) (Y1.out.hi0 Z2.out (by omega))⟩
              · skip
                have t1 : decide ((s : Int) < (m : Int)) = false := decide_eq_false (by omega)
                have t1n : decide (s < m) = false := decide_eq_false (by omega)
                have t3 : decide ((a : Int) < (s : Int)) = true := decide_eq_true (by omega)
                have t3n : decide (a < s) = true := decide_eq_true (by omega)
                have t4 : decide ((s : Int) < (mid : Int)) = true := decide_eq_true (by omega)
                have t4n : decide (s < mid) = true := decide_eq_true (by omega)
                have t5 : decide ((mid : Int) < (mid : Int) + (m : Int) - (s : Int)) = false := decide_eq_false (by omega)
                have Y1 : Aside (SymAt key a m b mid s d d) := X1.out.at0 y.out rfl O1.out O2.out (by omega) (by omega)
                have tok2 : True := trivial
                have tok3 : True := trivial
                go_wp2_with (first | (go_at_call 72; have _t := tok2; refine (IH.out a s mid d _ (by omega) hd S1.out (by omega) (by omega) (by omega) Y1.out.r1 Y1.out.r2 _ _ _ rfl rfl rfl).mono ?_; rintro e w2 ⟨rfl, d2, S3, Z2, Q2⟩; have S3 : Aside (SW enc w0 blk off d2 w2) := S3; have hd2 : d2.size = N := Z2.size.trans hd; have Z2 : Aside _ := Z2; have Q2 : Aside _ := Q2; clear tok2 _t))
                go_end0
                exact ⟨rfl, d2, S3.out, Y1.out.fin Z2.out Q2.out (Stp.refl d2) (Y1.out.hi0 Z2.out (by omega))⟩
            · skip
              by_cases z2a : mid < mid + m - s
              · by_cases z2b : mid + m - s < b
                · skip
                  have t1 : decide ((s : Int) < (m : Int)) = false := decide_eq_false (by omega)
                  have t1n : decide (s < m) = false := decide_eq_false (by omega)
                  have t3 : decide ((a : Int) < (s : Int)) = true := decide_eq_true (by omega)
                  have t3n : decide (a < s) = true := decide_eq_true (by omega)
                  have t4 : decide ((s : Int) < (mid : Int)) = false := decide_eq_false (by omega)
                  have t4n : decide (s < mid) = false := decide_eq_false (by omega)
                  have t5 : decide ((mid : Int) < (mid : Int) + (m : Int) - (s : Int)) = true := decide_eq_true (by omega)
                  have t6 : decide ((mid : Int) + (m : Int) - (s : Int) < (b : Int)) = true := decide_eq_true (by omega)
                  have Y1 : Aside (SymAt key a m b mid s d d) := X1.out.at0 y.out rfl O1.out O2.out (by omega) (by omega)
                  have tok2 : True := trivial
                  have tok3 : True := trivial
                  go_wp2_with (first | (go_at_call 72; have _t := tok3; refine (IH.out mid (mid + m - s) b d _ (by omega) hd S1.out (by omega) (by omega) (by omega) (Y1.out.hi1 (Stp.refl d)).1 (Y1.out.hi1 (Stp.refl d)).2 _ _ _ rfl (by omega) rfl).mono ?_; rintro e w3 ⟨rfl, d3, S4, Z3, Q3⟩; have S4 : Aside (SW enc w0 blk off d3 w3) := S4; have Z3 : Aside _ := Z3; have Q3 : Aside _ := Q3; clear tok3 _t))
                  go_end0
                  exact ⟨rfl, d3, S4.out, Y1.out.fin (Stp.refl d) (Y1.out.lo0 (by omega)) Z3.out Q3.out⟩
                · skip
                  have t1 : decide ((s : Int) < (m : Int)) = false := decide_eq_false (by omega)
                  have t1n : decide (s < m) = false := decide_eq_false (by omega)
                  have t3 : decide ((a : Int) < (s : Int)) = true := decide_eq_true (by omega)
                  have t3n : decide (a < s) = true := decide_eq_true (by omega)
                  have t4 : decide ((s : Int) < (mid : Int)) = false := decide_eq_false (by omega)
                  have t4n : decide (s < mid) = false := decide_eq_false (by omega)
                  have t5 : decide ((mid : Int) < (mid : Int) + (m : Int) - (s : Int)) = true := decide_eq_true (by omega)
                  have t6 : decide ((mid : Int) + (m : Int) - (s : Int) < (b : Int)) = false := decide_eq_false (by omega)
                  have Y1 : Aside (SymAt key a m b mid s d d) := X1.out.at0 y.out rfl O1.out O2.out (by omega) (by omega)
                  have tok2 : True := trivial
                  have tok3 : True := trivial
                  go_wp2
                  go_end0
                  exact ⟨rfl, d, S1.out, Y1.out.fin (Stp.refl d) (Y1.out.lo0 (by omega)) (Stp.refl d) (Y1.out.hi0 (Stp.refl d) (by omega))⟩
              · skip
                have t1 : decide ((s : Int) < (m : Int)) = false := decide_eq_false (by omega)
                have t1n : decide (s < m) = false := decide_eq_false (by omega)
                have t3 : decide ((a : Int) < (s : Int)) = true := decide_eq_true (by omega)
                have t3n : decide (a < s) = true := decide_eq_true (by omega)
                have t4 : decide ((s : Int) < (mid : Int)) = false := decide_eq_false (by omega)
                have t4n : decide (s < mid) = false := decide_eq_false (by omega)
                have t5 : decide ((mid : Int) < (mid : Int) + (m : Int) - (s : Int)) = false := decide_eq_false (by omega)
                have Y1 : Aside (SymAt key a m b mid s d d) := X1.out.at0 y.out rfl O1.out O2.out (by omega) (by omega)
                have tok2 : True := trivial
                have tok3 : True := trivial
                go_wp2
                go_end0
                exact ⟨rfl, d, S1.out, Y1.out.fin (Stp.refl d) (Y1.out.lo0 (by omega)) (Stp.refl d) (Y1.out.hi0 (Stp.refl d) (by omega))⟩
          · skip
            by_cases z2a : mid < mid + m - s
            · by_cases z2b : mid + m - s < b
              · skip
                have t1 : decide ((s : Int) < (m : Int)) = false := decide_eq_false (by omega)
                have t1n : decide (s < m) = false := decide_eq_false (by omega)
                have t3 : decide ((a : Int) < (s : Int)) = false := decide_eq_false (by omega)
                have t3n : decide (a < s) = false := decide_eq_false (by omega)
                have t5 : decide ((mid : Int) < (mid : Int) + (m : Int) - (s : Int)) = true := decide_eq_true (by omega)
                have t6 : decide ((mid : Int) + (m : Int) - (s : Int) < (b : Int)) = true := decide_eq_true (by omega)
                have Y1 : Aside (SymAt key a m b mid s d d) := X1.out.at0 y.out rfl O1.out O2.out (by omega) (by omega)
                have tok2 : True := trivial
                have tok3 : True := trivial
                go_wp2_with (first | (go_at_call 72; have _t := tok3; refine (IH.out mid (mid + m - s) b d _ (by omega) hd S1.out (by omega) (by omega) (by omega) (Y1.out.hi1 (Stp.refl d)).1 (Y1.out.hi1 (Stp.refl d)).2 _ _ _ rfl (by omega) rfl).mono ?_; rintro e w3 ⟨rfl, d3, S4, Z3, Q3⟩; have S4 : Aside (SW enc w0 blk off d3 w3) := S4; have Z3 : Aside _ := Z3; have Q3 : Aside _ := Q3; clear tok3 _t))
                go_end0
                exact ⟨rfl, d3, S4.out, Y1.out.fin (Stp.refl d) (Y1.out.lo0 (by omega)) Z3.out Q3.out⟩
              · skip
                have t1 : decide ((s : Int) < (m : Int)) = false := decide_eq_false (by omega)
                have t1n : decide (s < m) = false := decide_eq_false (by omega)
                have t3 : decide ((a : Int) < (s : Int)) = false := decide_eq_false (by omega)
                have t3n : decide (a < s) = false := decide_eq_false (by omega)
                have t5 : decide ((mid : Int) < (mid : Int) + (m : Int) - (s : Int)) = true := decide_eq_true (by omega)
                have t6 : decide ((mid : Int) + (m : Int) - (s : Int) < (b : Int)) = false := decide_eq_false (by omega)
                have Y1 : Aside (SymAt key a m b mid s d d) := X1.out.at0 y.out rfl O1.out O2.out (by omega) (by omega)
                have tok2 : True := trivial
                have tok3 : True := trivial
                go_wp2
                go_end0
                exact ⟨rfl, d, S1.out, Y1.out.fin (Stp.refl d) (Y1.out.lo0 (by omega)) (Stp.refl d) (Y1.out.hi0 (Stp.refl d) (by omega))⟩
            · skip
              have t1 : decide ((s : Int) < (m : Int)) = false := decide_eq_false (by omega)
              have t1n : decide (s < m) = false := decide_eq_false (by omega)
              have t3 : decide ((a : Int) < (s : Int)) = false := decide_eq_false (by omega)
              have t3n : decide (a < s) = false := decide_eq_false (by omega)
              have t5 : decide ((mid : Int) < (mid : Int) + (m : Int) - (s : Int)) = false := decide_eq_false (by omega)
              have Y1 : Aside (SymAt key a m b mid s d d) := X1.out.at0 y.out rfl O1.out O2.out (by omega) (by omega)
              have tok2 : True := trivial
              have tok3 : True := trivial
              go_wp2
              go_end0
              exact ⟨rfl, d, S1.out, Y1.out.fin (Stp.refl d) (Y1.out.lo0 (by omega)) (Stp.refl d) (Y1.out.hi0 (Stp.refl d) (by omega))⟩
end Go.Proofs.Ytpldapjcojjicaa.B
