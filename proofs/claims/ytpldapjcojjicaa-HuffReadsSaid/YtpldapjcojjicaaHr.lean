/- HuffReads: the walk: which symbols bits are, one behind the other, and how many bits are left. -/
import Derived.Test.YtpldapjcojjicaaUm
import Derived.Test.YtpldapjcojjicaaXn
import Derived.Test.YtpldapjcojjicaaA4
namespace Go.Proofs.Ytpldapjcojjicaa.B
open Go.Proofs Go.RowKit Go.Proofs.YtpldapjcojjicaaW.PrintWords Go.Proofs.YtpldapjcojjicaaW.PrintLast Go.Proofs.YtpldapjcojjicaaW.PrintMore Go.Proofs.Ytpldapjcojjicaa.Pl
set_option linter.unusedVariables false
set_option linter.unusedSimpArgs false

theorem reads_bad (W : World) (A : Option Addr) (c : Nat) (l : List Int) (hC : Kd.C (Kd.int .i64) W A l.length l) (hl : l.length ≤ 100000000000000) (hc : l.length ≤ c) (h : checkF l ≠ 0) (x : Value) :
    Calls Try.prog 14 #[.slice A l.length c, x] W fun e W' => e = .returned (.bool true) ∧ Below W.heap.size W W' := by
  have hAw : ∀ w, Calls Try.prog 36 #[] w fun e w' => e = .returned (.bool true) ∧ Below w.heap.size w w' := fun w => vitrinelaw02_awake.calls true w rfl
  have hmk := Aside0.mk (make_bad W A c l hC hl h)
  have hrm := Aside0.mk (fun W' (hb : Below W.heap.size W W') => refmake_bad W' A c l (Kd.C_below hC hb) hc h)
  clear h hC
  generalize checkF l = y at *
  go_enter Try.func14, Try.ntmps14
  go_wp2_with (first | (go_at_call 42; refine hmk.out.mono ?_; rintro e w1 ⟨rfl, hB⟩; replace hB := Aside0.mk hB) | (go_at_call 43; refine (hrm.out _ hB.out).mono ?_; rintro e w2 ⟨rfl, hB2⟩; replace hB2 := Aside0.mk hB2) | (go_at_call 36; refine (hAw _).mono ?_; rintro e w3 ⟨rfl, hB3⟩; replace hB3 := Aside0.mk hB3))
  go_ret
  have h2 := hB.out.trans (hB2.out.mono hB.out.size)
  exact ⟨rfl, h2.trans (hB3.out.mono h2.size)⟩

theorem tab_fit (l : List Int) (h : checkF l = 0) : (symQ l).length ≤ 288 ∧ ∀ k, k < 15 → 0 ≤ (tally l).getD (k + 1) 0 ∧ seenF (tally l) (k + 1) ≤ ((symQ l).length : Int) ∧ 0 ≤ seenF (tally l) k := by
  obtain ⟨h288, hbad⟩ := checkF_ok h
  have hg := Pure.good_of hbad
  have hl := Pure.symL_len l
  have hm := Pure.sumM_bd l
  have hsl : (symQ l).length = (Pure.symL l).length := rfl
  refine ⟨by omega, fun k hk => ⟨(tally_bd l (k + 1)).1, ?_, ?_⟩⟩
  · rw [← Pure.byLen_len l hg (k + 1) (by omega), hsl, Pure.symL_is l hg]
    obtain ⟨r, hr⟩ := Pure.byLen_app l (14 - k) (k + 1)
    rw [show k + 1 + (14 - k) = 15 by omega] at hr
    rw [hr, List.length_append]
    omega
  · rw [← Pure.byLen_len l hg k (by omega)]
    omega
set_option maxHeartbeats 4000000 in
set_option maxRecDepth 100000 in
theorem reads_good (W : World) (A : Option Addr) (c : Nat) (l : List Int) (hC : Kd.C (Kd.int .i64) W A l.length l) (hc : l.length ≤ c) (h : checkF l = 0) (S : ByteArray) (hS : S.size ≤ 140737488351232) :
    Calls Try.prog 14 #[.slice A l.length c, .string S] W fun e W' => e = .returned (.bool true) ∧ Below W.heap.size W W' := by
  have hAw : ∀ w, Calls Try.prog 36 #[] w fun e w' => e = .returned (.bool true) ∧ Below w.heap.size w w' := fun w => vitrinelaw02_awake.calls true w rfl
  obtain ⟨h288, hbad⟩ := checkF_ok h
  have hg := Pure.good_of hbad
  have hcl : (codesL l).length = l.length := by unfold codesL; rw [codesGo_len]; simp
  have hfit := tab_fit l h
  have hnx := fun d h' m hh hm => Pure.next_same l h d h' m hh hm
  have hmk := Aside0.mk (make_good W A c l hC h)
  have hrm := Aside0.mk (fun W' (hb : Below W.heap.size W W') => refmake_good W' A c l (Kd.C_below hC hb) hc h)
  have hmo : mostQ (symQ l) ≤ 15 := by unfold mostQ; split <;> omega
  replace hC := Aside0.mk hC
  replace hg := Aside0.mk hg
  replace hcl := Aside0.mk hcl
  replace hfit := Aside0.mk hfit
  replace hnx := Aside0.mk hnx
  replace hmo := Aside0.mk hmo
  clear h hbad
  go_enter Try.func14, Try.ntmps14
  go_wp2_with (first | (go_at_call 42; refine hmk.out.mono ?_; rintro e w1 ⟨T, t, rfl, hT, hB⟩; replace hT := Aside0.mk hT; replace hB := Aside0.mk hB) | (go_at_call 43; refine (hrm.out _ hB.out).mono ?_; rintro e w2 ⟨T2, A1, c1, A2, c2, rfl, hU, hB2⟩; replace hU := Aside0.mk hU; replace hB2 := Aside0.mk hB2) | (go_at_call 18; refine (read_calls _ _).mono ?_; rintro e w3 ⟨rfl, rfl⟩))
  have hT2 := Aside0.mk (hT.out.below (hB2.out))
  have hbw := Aside0.mk (hB.out.trans (hB2.out.mono hB.out.size))
  have HS0 := Aside0.mk (br_start w2 S)
  have HR0 := Aside0.mk (Rel.start S)
  clear hT hB hB2 hmk hrm
  go_loopg [11] 100 (fun gh v11 wr => ∃ (i : Nat) (d : ByteArray) (h n a : Nat), v11 = .int .i64 (i : Int) ∧ i ≤ 100 ∧ 100 - i ≤ gh ∧ Aside0 (BR w2 wr S d h n a ∧ Rel S d h n a))
  case atStart => exact ⟨0, S, 0, 0, 0, rfl, by omega, by omega, ⟨HS0.out, HR0.out⟩⟩
  case round =>
    clear HS0 HR0
    obtain ⟨i, d, h, n, a, rfl, hi, hgh, HR⟩ := hrel
    have hWr := Aside0.mk (hbw.out.trans (HR.out.1.bel.mono hbw.out.size))
    by_cases hc1 : i < 100
    · have hcb1 : decide ((i : Int) < 100) = true := decide_eq_true (by omega)
      have hcb1' : decide (i < 100) = true := decide_eq_true hc1
      have hR := HR.out.2
      have hdd := hR.hd
      have hsame := hnx.out d h n hR.hh hR.hn
      obtain ⟨res, hres⟩ : ∃ res, nextX l (codesL l) (Pure.mostX l) 1 0 d h n = res := ⟨_, rfl⟩
      rw [hres] at hsame
      have hN := next_calls w2 wr T w2.heap.size t l (codesL l) (tally l) (symQ l) (mostQ (symQ l)) d h n hT2.out HR.out.1.bel (Nat.le_refl _) HR.out.1.rd hR.hn hR.hh (by omega) hmo.out (by have := hfit.out.1; omega) hfit.out.2 res hsame
      have hX := fun w' (s : BR w2 w' S res.2.2.1 res.2.2.2.1 res.2.2.2.2 a) => refnext_calls hU.out hg.out hcl.out h288 s hR hS res hres
      clear hres hsame
      obtain ⟨r1, r2, d2, h2, n2⟩ := res
      simp only at hX
      replace hN := Aside0.mk hN
      replace hX := Aside0.mk hX
      clear hR
      go_wp2_with (first | (go_at_call 46; refine hN.out.mono ?_; rintro e w3 ⟨rfl, hI3, hF3⟩; have HB := Aside0.mk (HR.out.1.byR hI3 hF3); clear hI3 hF3) | (go_at_call 47; refine (hX.out _ HB.out).mono ?_; rintro e w4 ⟨rfl, a4, hB4, hR4⟩; replace HB := Aside0.mk hB4; replace hR4 := Aside0.mk hR4; clear hB4) | (go_at_call 23; refine (br_left HB.out hR4.out hS).mono ?_; rintro e w5 ⟨rfl, s5⟩; replace HB := Aside0.mk s5; clear s5) | (go_at_call 24; refine (x_left HB.out hR4.out hS).mono ?_; rintro e w6 ⟨rfl, s6⟩; replace HB := Aside0.mk s6; clear s6))
      go_roundg (100 - (i + 1))
      case measure => omega
      case rel => exact ⟨i + 1, d2, h2, n2, a4, by go_num, by omega, by omega, ⟨HB.out, hR4.out⟩⟩
    · have hcb1 : decide ((i : Int) < 100) = false := decide_eq_false (by omega)
      have hcb1' : decide (i < 100) = false := decide_eq_false hc1
      go_wp2_with (go_at_call 36; refine (hAw _).mono ?_; rintro e w7 ⟨rfl, hbel⟩; replace hbel := Aside0.mk hbel)
      go_ret
      exact ⟨rfl, hWr.out.trans (hbel.out.mono hWr.out.size)⟩
theorem reads_walk (a0 : Option Addr) (len0 cap0 : Nat) (z0 : List Int) (S : ByteArray) (w : World) (w0 : (a0 = none ∧ len0 = 0 ∧ cap0 = 0 ∧ z0 = []) ∨ ∃ x, a0 = some x ∧ len0 ≤ cap0 ∧ cap0 ≤ maxLen ∧ z0.length = cap0 ∧ (∀ i, i < z0.length → w.cell? (x.add i) = some (.int .i64 (z0.getD i 0))) ∧ ∀ n ∈ z0, (Lit.int .i64 n).wf = true) (y0 : len0 * 8 ≤ 140737488351232) (hS : S.size ≤ 140737488351232) :
    Calls Try.prog 14 #[.slice a0 len0 cap0, .string S] w fun e w' => e = .returned (.bool true) ∧ Below w.heap.size w w' := by
  obtain ⟨l0, rfl, hr0, hm0, hw0, hc0⟩ := ReadsInt.ofRowC w0
  have hC := Kd.C_of_reads (d := (0 : Int)) (h1 := fun _ => rfl) hr0
  by_cases h : checkF l0 = 0
  · exact reads_good w _ _ l0 hC hc0 h S hS
  · exact reads_bad w _ _ l0 hC (by omega) hc0 h _
end Go.Proofs.Ytpldapjcojjicaa.B
