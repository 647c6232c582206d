/- HuffMakes: the walk: there is a table of just the lengths that the document's Check takes. -/
import Derived.Test.YtpldapjcojjicaaMk5
import Derived.Test.YtpldapjcojjicaaA4
import Derived.Test.YtpldapjcojjicaaQz1
namespace Go.Proofs.Ytpldapjcojjicaa.B
open Go.Proofs Go.RowKit Go.Proofs.YtpldapjcojjicaaW.PrintWords Go.Proofs.YtpldapjcojjicaaW.PrintLast Go.Proofs.YtpldapjcojjicaaW.PrintMore Go.Proofs.Ytpldapjcojjicaa.Pl
set_option linter.unusedVariables false
set_option linter.unusedSimpArgs false

/-- The document's Check, whatever the world. -/
theorem refcheck (W : World) (A : Option Addr) (c : Nat) (l : List Int) (hC : Kd.C (Kd.int .i64) W A l.length l) (hc : l.length ≤ c) :
    Calls Try.prog 35 #[.slice A l.length c] W fun e W' => e = .returned (.int .i64 (checkF l)) ∧ Fr (fun _ => False) W W' := by
  refine (vitrineref02_Check.calls _ A c l (checkF l) W hC hc (Pure.check_is l (2 * l.length + 2) (by omega))).mono ?_
  rintro e W' ⟨h1, h2⟩
  exact ⟨h1, Fr.of_below h2⟩
set_option maxHeartbeats 1000000 in
set_option maxRecDepth 100000 in
theorem makes_calls (W : World) (A : Option Addr) (c : Nat) (l : List Int) (hC : Kd.C (Kd.int .i64) W A l.length l) (hl : l.length ≤ 100000000000000) (hc : l.length ≤ c) :
    Calls Try.prog 12 #[.slice A l.length c] W fun e W' => e = .returned (.bool true) ∧ Below W.heap.size W W' := by
  have hAw : ∀ w, Calls Try.prog 36 #[] w fun e w' => e = .returned (.bool true) ∧ Below w.heap.size w w' := fun w => vitrinelaw02_awake.calls true w rfl
  have href := Aside0.mk (fun W' (hb : Below W.heap.size W W') => refcheck W' A c l (Kd.C_below hC hb) hc)
  by_cases h : checkF l = 0
  · have hmk := Aside0.mk (make_good W A c l hC h)
    rw [h] at href
    replace hC := Aside0.mk hC
    clear h hl hc
    go_enter Try.func12, Try.ntmps12
    go_wp2_with (first | (go_at_call 42; refine hmk.out.mono ?_; rintro e w1 ⟨T, t, rfl, hT, hB⟩; replace hT := Aside0.mk hT; replace hB := Aside0.mk hB) | (go_at_call 35; refine (href.out _ hB.out).mono ?_; rintro e w2 ⟨rfl, hF⟩; replace hF := Aside0.mk hF) | (go_at_call 36; refine (hAw _).mono ?_; rintro e w3 ⟨rfl, hB3⟩; replace hB3 := Aside0.mk hB3))
    go_ret
    have h2 := hB.out.trans (hF.out.to_below (fun _ _ _ e => e) hB.out.size)
    exact ⟨rfl, h2.trans (hB3.out.mono h2.size)⟩
  · have hmk := Aside0.mk (make_bad W A c l hC hl h)
    have hne : (checkF l != 0) = true := by simpa using h
    have hne' : (checkF l == 0) = false := by simpa using h
    replace hC := Aside0.mk hC
    clear h
    generalize checkF l = y at *
    go_enter Try.func12, Try.ntmps12
    go_wp2_with (first | (go_at_call 42; refine hmk.out.mono ?_; rintro e w1 ⟨rfl, hB⟩; replace hB := Aside0.mk hB) | (go_at_call 35; refine (href.out _ hB.out).mono ?_; rintro e w2 ⟨rfl, hF⟩; replace hF := Aside0.mk hF) | (go_at_call 36; refine (hAw _).mono ?_; rintro e w3 ⟨rfl, hB3⟩; replace hB3 := Aside0.mk hB3))
    go_ret
    have h2 := hB.out.trans (hF.out.to_below (fun _ _ _ e => e) hB.out.size)
    exact ⟨rfl, h2.trans (hB3.out.mono h2.size)⟩
theorem makes_walk (a0 : Option Addr) (len0 cap0 : Nat) (z0 : List Int) (w : World) (w0 : (a0 = none ∧ len0 = 0 ∧ cap0 = 0 ∧ z0 = []) ∨ ∃ x, a0 = some x ∧ len0 ≤ cap0 ∧ cap0 ≤ maxLen ∧ z0.length = cap0 ∧ (∀ i, i < z0.length → w.cell? (x.add i) = some (.int .i64 (z0.getD i 0))) ∧ ∀ n ∈ z0, (Lit.int .i64 n).wf = true) (y0 : len0 * 8 ≤ 140737488351232) :
    Calls Try.prog 12 #[.slice a0 len0 cap0] w fun e w' => e = .returned (.bool true) ∧ Below w.heap.size w w' := by
  obtain ⟨l0, rfl, hr0, hm0, hw0, hc0⟩ := ReadsInt.ofRowC w0
  exact makes_calls w _ _ l0 (Kd.C_of_reads (d := (0 : Int)) (h1 := fun _ => rfl) hr0) (by omega) hc0
end Go.Proofs.Ytpldapjcojjicaa.B
