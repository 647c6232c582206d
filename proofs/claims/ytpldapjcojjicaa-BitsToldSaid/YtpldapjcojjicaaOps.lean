/- The calls (Op) that a law of layer 1 is handed, as the walks want them. -/
import Derived.Test.YtpldapjcojjicaaPb0
import Derived.WalkKit
import Derived.ProofKit
import Derived.OpenShut
import Derived.ShutString
import Derived.ChangeOld
import Derived.Below
import Derived.SizedLaws
import Derived.Deep.Slices
import Derived.Deep.Fields
import Derived.ChangeSame
namespace Go.Proofs.Ytpldapjcojjicaa.B
open Go.ChangeShapes Go.WideShapes Go.ChangeAt Go.RowKit Go.Deep
open Go.Proofs.Ytpldapjcojjicaa.Pb Go.Proofs.YtpldapjcojjicaaW.PrintWords
set_option linter.unusedVariables false
theorem laidOut : laidOutB Try.prog = true := by kernel_rfl
theorem choose_list {α : Type} (p : Nat → α → Prop) : ∀ n, (∀ i, i < n → ∃ x, p i x) → ∃ l : List α, l.length = n ∧ ∀ i x, l[i]? = some x → p i x
  | 0, _ => ⟨[], rfl, by simp⟩
  | n + 1, h => by
    obtain ⟨l, hl, hp⟩ := choose_list p n (fun i hi => h i (by omega))
    obtain ⟨x, hx⟩ := h n (by omega)
    refine ⟨l ++ [x], by simp [hl], fun i y hy => ?_⟩
    by_cases hi : i < l.length
    · rw [List.getElem?_append_left hi] at hy
      exact hp i y hy
    · rw [List.getElem?_append_right (by omega)] at hy
      have : i - l.length = 0 := by
        have := (List.getElem?_eq_some_iff.1 hy).1
        simp at this
        omega
      rw [this] at hy
      simp at hy
      subst hy
      have : i = n := by omega
      subst this
      exact hx

set_option maxRecDepth 100000 in
/-- A slice of calls (Op) that came in, as the walk wants it. -/
theorem open_ops {H : Type} {enc : TypeId × Value → H} {w : World} {base : Nat} {spare : Nat → Bool} {held : Bool} {fuel : Nat} {A : Option Addr} {n c : Nat} {x : DataW H × List MemPlace}
    (h : DataW.trod enc Try.prog w base spare held fuel 25 [.slice A n c] = some x) : ∃ l : List S32, l.length = n ∧ n ≤ c ∧ Kd.C k32 w A n l := by
  have hC : Try.prog.cellsOf 32 = 3 := by kernel_rfl
  have hC1 : Try.prog.cellsOf 3 = 1 := by kernel_rfl
  have hC4 : Try.prog.cellsOf 4 = 1 := by kernel_rfl
  rcases open_slice Try.underlying25 h with ⟨hcs, _⟩ | ⟨a, len, cap, m, q, D, Pl, hcs, _, hl, hm, hmm, _, hi⟩
  · simp at hcs
    obtain ⟨rfl, rfl, rfl⟩ := hcs
    exact ⟨[], rfl, Nat.le_refl _, rfl, by omega, fun h => by omega⟩
  · simp at hcs
    obtain ⟨rfl, rfl, rfl⟩ := hcs
    have hnm : n ≤ m := by rw [hmm]; split <;> omega
    obtain ⟨l, hll, hp⟩ := choose_list (fun i (s : S32) => w.cell? (a.add (i * 3)) = some (.bool s.f0) ∧ w.cell? (a.add (i * 3 + 1)) = some (.int .i64 s.f1) ∧ w.cell? (a.add (i * 3 + 2)) = some (.int .i64 s.f2)) n (fun i hin => by
      obtain ⟨cs', hc, ht⟩ := hi i (by omega)
      rw [hC] at hc
      obtain ⟨_, hlen, hat⟩ := World.cells?_some hc
      obtain ⟨ys, r, _, _, _, hyl, hf⟩ := DataW.trod_struct Try.underlying32 ht
      match cs', hlen, ys, hyl with
      | [c0, c1, c2], _, [y0, y1, y2], _ =>
        have t0 : DataW.trod enc Try.prog w base spare held r 4 (([c0, c1, c2].drop 0).take (Try.prog.cellsOf 4)) = some y0 := hf 0 _ rfl
        have t1 : DataW.trod enc Try.prog w base spare held r 3 (([c0, c1, c2].drop 1).take (Try.prog.cellsOf 3)) = some y1 := hf 1 _ rfl
        have t2 : DataW.trod enc Try.prog w base spare held r 3 (([c0, c1, c2].drop 2).take (Try.prog.cellsOf 3)) = some y2 := hf 2 _ rfl
        rw [hC4] at t0
        rw [hC1] at t1 t2
        obtain ⟨n0, e0, _⟩ := DataW.trod_bool Try.underlying4 t0
        obtain ⟨n1, e1, _⟩ := DataW.trod_int Try.underlying3 t1
        obtain ⟨n2, e2, _⟩ := DataW.trod_int Try.underlying3 t2
        obtain rfl : c0 = .bool n0 := by simpa using e0
        obtain rfl : c1 = .int .i64 n1 := by simpa using e1
        obtain rfl : c2 = .int .i64 n2 := by simpa using e2
        have g0 := hat 0 (by omega)
        have g1 := hat 1 (by omega)
        have g2 := hat 2 (by omega)
        rw [Go.Deep.add_add] at g0 g1 g2
        exact ⟨⟨n0, n1, n2⟩, g0, g1, g2⟩)
    refine ⟨l, hll, hl, hll, by unfold maxLen at hm; omega, fun _ => ⟨a, rfl, fun j p hj => ?_⟩⟩
    obtain ⟨h0, h1, h2⟩ := hp j p hj
    refine ⟨[.bool p.f0, .int .i64 p.f1, .int .i64 p.f2], rfl, k32_mk w p, fun i u hu => ?_⟩
    match i, hu with
    | 0, hu => simp at hu; subst hu; exact h0
    | 1, hu => simp at hu; subst hu; exact h1
    | 2, hu => simp at hu; subst hu; exact h2

end Go.Proofs.Ytpldapjcojjicaa.B
