/- Layer 2 (huff): slices' stable sort at ints: the whole. -/
import Derived.Test.YtpldapjcojjicaaSi6
namespace Go.Proofs.Ytpldapjcojjicaa.B
open Go.Proofs Go.Shelf Go.RowKit Go.Lib Go.Sort
set_option linter.unusedVariables false
set_option linter.unusedSimpArgs false
variable {α : Type} [Inhabited α]

/-- The merge, whatever its rows. -/
theorem sym1 (enc : α → Value) (P : Program) (L : P1 P) (cf : α → α → Int) (key : α → Int) (hcf0 : ∀ x y, cf x y < 0 ↔ key x < key y) (g : Nat) (cb : Array Value) (eg : ∀ args w, (callFunc g args).run P w = .ok (.enter g args) w) (w0 : World) (blk off N cap : Nat) (d0 : Array α) (R : Row1 enc w0 blk off d0) (hcmp : CmpLays1 P g cb enc cf blk off N w0) (hd0 : d0.size = N) (hN : N < 4611686018427387904) :
    ∀ (z a m b : Nat) (d : Array α) (W : World), b - a < z → d.size = N → SW enc w0 blk off d W → a < m → m < b → b ≤ N → SrtOn key d a m → SrtOn key d m b → ∀ A M B : Int, A = (a : Int) → M = (m : Int) → B = (b : Int) →
      Calls P 72 #[.slice (some ⟨blk, off, none⟩) N cap, .int .i64 A, .int .i64 M, .int .i64 B, .func (.func g) #[] cb] W fun e W' => e = .returned (.tuple #[]) ∧ ∃ d', SW enc w0 blk off d' W' ∧ Stp key a b d d' ∧ SrtOn key d' a b
  | 0, _, _, _, _, _, h => by omega
  | z + 1, a, m, b, d, W, hz => by
    intro hd S ham hmb hb O1 O2 A M B hA hM hB
    subst hA hM hB
    by_cases h1 : m = a + 1
    · exact symUp1 enc P L cf key hcf0 g cb eg w0 W blk off N cap a m b d0 d R hcmp hd0 hd S ham hmb hb hN O1 O2 h1
    · by_cases h2 : b = m + 1
      · exact symDown1 enc P L cf key hcf0 g cb eg w0 W blk off N cap a m b d0 d R hcmp hd0 hd S ham hmb hb hN O1 O2 h1 h2
      · exact symGen1 enc P L cf key hcf0 g cb eg w0 W blk off N cap a m b d0 d R hcmp hd0 hd S ham hmb hb hN O1 O2 h1 h2
          (fun a' m' b' d1 W' hlt => sym1 enc P L cf key hcf0 g cb eg w0 blk off N cap d0 R hcmp hd0 hN z a' m' b' d1 W' (by omega))
set_option maxHeartbeats 8000000 in
set_option maxRecDepth 1000000 in
theorem stable1 (enc : α → Value) (P : Program) (L : P1 P) (cf : α → α → Int) (key : α → Int) (hcf0 : ∀ x y, cf x y < 0 ↔ key x < key y) (g : Nat) (cb : Array Value) (eg : ∀ args w, (callFunc g args).run P w = .ok (.enter g args) w) (w0 W : World) (blk off N cap : Nat) (d0 d : Array α) (R : Row1 enc w0 blk off d0) (hcmp : CmpLays1 P g cb enc cf blk off N w0) (hd0 : d0.size = N) (hd : d.size = N) (S : SW enc w0 blk off d W) (hN : N < 1000000000000) :
    Calls P 67 #[.slice (some ⟨blk, off, none⟩) N cap, .int .i64 N, .func (.func g) #[] cb] W fun e W' => e = .returned (.tuple #[]) ∧ ∃ d', SW enc w0 blk off d' W' ∧ Stp key 0 N d d' ∧ SrtOn key d' 0 N := by
  have mixed := L.mixed; have t0 := L.t0; have a0 := L.a0; have z0 := L.z0; have v0 := L.v0; have t3 := L.t3; have a3 := L.a3; have z3 := L.z3; have v3 := L.v3; have t4 := L.t4; have a4 := L.a4; have z4 := L.z4; have v4 := L.v4; have t73 := L.t73; have a73 := L.a73; have z73 := L.z73; have v73 := L.v73; have t51 := L.t51; have a51 := L.a51; have z51 := L.z51; have v51 := L.v51; have t103 := L.t103; have a103 := L.a103; have z103 := L.z103; have v103 := L.v103; have hcl0 := R.hO.cells; simp only [Value.cells] at hcl0; have hst := R.hO.store P; have u51 := run_underlying L.t51; have e72 := L.e72; have e71 := L.e71
  have S0 : Aside (SW enc w0 blk off d W) := S
  have SYM := sym1 enc P L cf key hcf0 g cb eg w0 blk off N cap d0 R hcmp hd0 (by omega)
  have INS := fun (W : World) (a b : Nat) (d : Array α) (hd : d.size = N) S hab hb A B hA hB => ins1' enc P L cf key hcf0 g cb eg w0 W blk off N cap a b d0 d R hcmp hd0 hd S hab hb (by omega) A B hA hB
  have SYM : Aside _ := SYM
  have INS : Aside _ := INS
  clear S hcf0
  go_enter L.f67, Try.ntmps67
  go_wp2
  go_loopg [7, 8] (N + 1) (fun gh v7 v8 wr => ∃ (a : Nat) (dk : Array α), v7 = .int .i64 (a : Int) ∧ v8 = .int .i64 ((a : Int) + 20) ∧ a ≤ N ∧ N + 1 - a ≤ gh ∧ dk.size = N ∧ Aside (SW enc w0 blk off dk wr) ∧ Aside (Stp key 0 N d dk) ∧ Aside (PreB key N 20 a dk))
  case atStart => exact ⟨0, d, rfl, rfl, Nat.zero_le _, by omega, hd, S0, Stp.refl d, PreB.start key N 20 d⟩
  case round =>
    clear S0
    obtain ⟨a, dk, rfl, rfl, haN, hg, hdk, S1, X1, Q1⟩ := hrel
    by_cases hc : a + 20 ≤ N
    · have hcb : decide ((a : Int) + 20 ≤ (N : Int)) = true := decide_eq_true (by omega)
      go_wp2_with (go_at_call 71; refine (INS.out _ a (a + 20) dk hdk S1.out (by omega) hc _ _ rfl (by omega)).mono ?_; rintro e w1 ⟨rfl, d1, S2, Y2, O2⟩; have S2 : Aside (SW enc w0 blk off d1 w1) := S2; have hd1 : d1.size = N := Y2.size.trans hdk; have Y2 : Aside _ := Y2; have O2 : Aside _ := O2)
      go_roundg (N + 1 - (a + 20))
      case measure => omega
      case rel => exact ⟨a + 20, d1, by first | rfl | go_num | (congr 1; omega), by first | rfl | go_num | (congr 1; omega), hc, Nat.le_refl _, hd1, S2, X1.out.trans (Y2.out.mono (by omega) hc), Q1.out.step Y2.out O2.out hc (by omega)⟩
    · have hcb : decide ((a : Int) + 20 ≤ (N : Int)) = false := decide_eq_false (by omega)
      obtain ⟨wo, rfl⟩ : ∃ wo : World, wo = wr := ⟨_, rfl⟩
      go_wp2_with (go_at_call 71; refine (INS.out _ a N dk hdk S1.out haN (Nat.le_refl _) _ _ rfl rfl).mono ?_; rintro e w1 ⟨rfl, d1, S2, Y2, O2⟩; have S2 : Aside (SW enc w0 blk off d1 w1) := S2; have hd1 : d1.size = N := Y2.size.trans hdk; have B2 : Aside (Blk key d1 N 20 0) := Q1.out.last Y2 O2 (by omega); have X2 : Aside (Stp key 0 N d d1) := X1.out.trans (Y2.mono (by omega) (Nat.le_refl _)); clear Y2 O2 S1 X1 Q1)
      go_loopg [6, 7, 8, 9] (N + 1) (fun gh v6 v7 v8 v9 wr => ∃ (bs : Nat) (dk : Array α), v6 = .int .i64 (bs : Int) ∧ 0 < bs ∧ bs ≤ 2 * N + 20 ∧ N + 1 - bs ≤ gh ∧ dk.size = N ∧ Aside (SW enc w0 blk off dk wr) ∧ Aside (Stp key 0 N d dk) ∧ Aside (Blk key dk N bs 0))
      case atStart => exact ⟨20, d1, rfl, by omega, by omega, by omega, hd1, S2, X2, B2⟩
      case round =>
        clear S2 X2 B2 hd1 hdk hg hc hcb
        obtain ⟨bs, dk, rfl, hb0, hbN, hg, hdk, S1, X1, B1⟩ := hrel
        by_cases hc : bs < N
        · have hcb : decide ((bs : Int) < (N : Int)) = true := decide_eq_true (by omega)
          have hcb' : decide (bs < N) = true := decide_eq_true hc
          obtain ⟨wp, rfl⟩ : ∃ wp : World, wp = wr := ⟨_, rfl⟩
          go_wp2
          go_loopg [7, 8] (N + 1) (fun gh v7 v8 wr => ∃ (a : Nat) (dj : Array α), v7 = .int .i64 (a : Int) ∧ v8 = .int .i64 ((a : Int) + 2 * (bs : Int)) ∧ a ≤ N ∧ N + 1 - a ≤ gh ∧ dj.size = N ∧ Aside (SW enc w0 blk off dj wr) ∧ Aside (Stp key 0 N d dj) ∧ Aside (PreB key N (2 * bs) a dj) ∧ Aside (Blk key dj N bs a))
          case atStart => exact ⟨0, dk, rfl, by first | rfl | (congr 1; omega), Nat.zero_le _, by omega, hdk, S1, X1, PreB.start key N (2 * bs) dk, B1⟩
          case round =>
            clear S1 X1 B1 hdk
            obtain ⟨a, dj, rfl, rfl, haN, hg2, hdj, S1, X1, Q1, B1⟩ := hrel
            by_cases hc2 : a + 2 * bs ≤ N
            · have hcb2 : decide ((a : Int) + 2 * (bs : Int) ≤ (N : Int)) = true := decide_eq_true (by omega)
              have T2 : Aside _ := B1.out.two (by omega) hb0
              go_wp2_with (go_at_call 72; refine (SYM.out (N + 1) a (a + bs) (a + 2 * bs) dj _ (by omega) hdj S1.out (by omega) (by omega) hc2 T2.out.1 (T2.out.2.1.mono (Nat.le_refl _) (by omega)) _ _ _ rfl (by omega) (by omega)).mono ?_; rintro e w2 ⟨rfl, d2, S3, Y3, O3⟩; have S3 : Aside (SW enc w0 blk off d2 w2) := S3; have hd2 : d2.size = N := Y3.size.trans hdj; have Y3 : Aside _ := Y3; have O3 : Aside _ := O3)
              go_roundg (N + 1 - (a + 2 * bs))
              case measure => omega
              case rel => exact ⟨a + 2 * bs, d2, by first | rfl | go_num | (congr 1; omega), by first | rfl | go_num | (congr 1; omega), hc2, Nat.le_refl _, hd2, S3, X1.out.trans (Y3.out.mono (by omega) hc2), Q1.out.step Y3.out O3.out hc2 (by omega), by have g := T2.out.2.2; rw [show a + bs + bs = a + 2 * bs by omega] at g; exact g.eq fun i hi => Y3.out.out i (by omega)⟩
            · have hcb2 : decide ((a : Int) + 2 * (bs : Int) ≤ (N : Int)) = false := decide_eq_false (by omega)
              by_cases hm : a + bs < N
              · have hmb : decide ((a : Int) + (bs : Int) < (N : Int)) = true := decide_eq_true (by omega)
                have T2 : Aside _ := B1.out.two hm hb0
                go_wp2_with (go_at_call 72; refine (SYM.out (N + 1) a (a + bs) N dj _ (by omega) hdj S1.out (by omega) hm (Nat.le_refl _) T2.out.1 (T2.out.2.1.mono (Nat.le_refl _) (by omega)) _ _ _ rfl (by omega) rfl).mono ?_; rintro e w2 ⟨rfl, d2, S3, Y3, O3⟩; have S3 : Aside (SW enc w0 blk off d2 w2) := S3; have hd2 : d2.size = N := Y3.size.trans hdj; have Y3 : Aside _ := Y3; have O3 : Aside _ := O3)
                go_roundg (N + 1 - 2 * bs)
                case measure => omega
                case rel => exact ⟨2 * bs, d2, by first | rfl | go_num | (congr 1; omega), by omega, by omega, by omega, hd2, S3, X1.out.trans (Y3.out.mono (by omega) (Nat.le_refl _)), Q1.out.last Y3.out O3.out (by omega)⟩
              · have hmb : decide ((a : Int) + (bs : Int) < (N : Int)) = false := decide_eq_false (by omega)
                go_wp2
                go_roundg (N + 1 - 2 * bs)
                case measure => omega
                case rel => exact ⟨2 * bs, dj, by first | rfl | go_num | (congr 1; omega), by omega, by omega, by omega, hdj, S1, X1, Q1.out.end_ B1.out (by omega)⟩
        · have hcb : decide ((bs : Int) < (N : Int)) = false := decide_eq_false (by omega)
          have hcb' : decide (bs < N) = false := decide_eq_false hc
          go_wp2
          go_end0
          exact ⟨rfl, dk, S1.out, X1.out, B1.out.all (by omega)⟩
set_option maxRecDepth 1000000 in
theorem sort1 (enc : α → Value) (P : Program) (L : P1 P) (cf : α → α → Int) (key : α → Int) (hcf0 : ∀ x y, cf x y < 0 ↔ key x < key y) (g : Nat) (cb : Array Value) (eg : ∀ args w, (callFunc g args).run P w = .ok (.enter g args) w) (w0 : World) (blk off N cap : Nat) (d0 : Array α) (R : Row1 enc w0 blk off d0) (hcmp : CmpLays1 P g cb enc cf blk off N w0) (hd0 : d0.size = N) (hN : N < 1000000000000) :
    Calls P 61 #[.slice (some ⟨blk, off, none⟩) N cap, .func (.func g) #[] cb] w0 fun e W' => e = .returned (.tuple #[]) ∧ ∃ d', SW enc w0 blk off d' W' ∧ Stp key 0 N d0 d' ∧ SrtOn key d' 0 N := by
  have mixed := L.mixed; have t0 := L.t0; have a0 := L.a0; have z0 := L.z0; have v0 := L.v0; have t3 := L.t3; have a3 := L.a3; have z3 := L.z3; have v3 := L.v3; have t4 := L.t4; have a4 := L.a4; have z4 := L.z4; have v4 := L.v4; have t73 := L.t73; have a73 := L.a73; have z73 := L.z73; have v73 := L.v73; have t51 := L.t51; have a51 := L.a51; have z51 := L.z51; have v51 := L.v51; have t103 := L.t103; have a103 := L.a103; have z103 := L.z103; have v103 := L.v103; have hcl0 := R.hO.cells; simp only [Value.cells] at hcl0; have hst := R.hO.store P; have u51 := run_underlying L.t51; have e67 := L.e67
  go_enter L.f61, Try.ntmps61
  go_wp2_with (go_at_call 67; refine (stable1 enc P L cf key hcf0 g cb eg w0 w0 blk off N cap d0 d0 R hcmp hd0 hd0 (.start R.hH) hN).mono ?_; rintro e w1 ⟨rfl, h1⟩; have h1 : Aside _ := h1)
  go_end0
  exact ⟨rfl, h1.out⟩
end Go.Proofs.Ytpldapjcojjicaa.B
