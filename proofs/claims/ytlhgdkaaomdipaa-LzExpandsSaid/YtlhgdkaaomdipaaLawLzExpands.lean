/- LzExpands, the row: whatever list of tokens is handed in, the law returns true and the list reads as it did. -/
import Derived.Test.YtlhgdkaaomdipaaRows
import Derived.Test.YtlhgdkaaomdipaaPr4
import Derived.Test.YtlhgdkaaomdipaaPureLzExpands
import Derived.WalkKit
import Derived.ProofKit
import Derived.OpenShut
import Derived.ShutString
import Derived.ChangeOld
import Derived.Below
import Derived.SizedLaws
import Derived.Deep.Slices
import Derived.Deep.Fields
import Derived.ChangeSame
namespace Go.Proofs.Ytlhgdkaaomdipaa.lzExpands
open Go.ChangeShapes Go.WideShapes Go.ChangeAt Go.RowKit Go.Deep
open Go.Proofs.Ytlhgdkaaomdipaa.Pr Go.Proofs.YtlhgdkaaomdipaaW.PrintWords
set_option linter.unusedVariables false
theorem own : ownKnob Try.prog.godebug = none := by kernel_rfl
theorem laidOut : laidOutB Try.prog = true := by kernel_rfl
theorem choose_list {α : Type} (p : Nat → α → Prop) : ∀ n, (∀ i, i < n → ∃ x, p i x) → ∃ l : List α, l.length = n ∧ ∀ i x, l[i]? = some x → p i x
  | 0, _ => ⟨[], rfl, by simp⟩
  | n + 1, h => by
    obtain ⟨l, hl, hp⟩ := choose_list p n (fun i hi => h i (by omega))
    obtain ⟨x, hx⟩ := h n (by omega)
    refine ⟨l ++ [x], by simp [hl], fun i y hy => ?_⟩
    by_cases hi : i < l.length
    · rw [List.getElem?_append_left hi] at hy
      exact hp i y hy
    · rw [List.getElem?_append_right (by omega)] at hy
      have : i - l.length = 0 := by
        have := (List.getElem?_eq_some_iff.1 hy).1
        simp at this
        omega
      rw [this] at hy
      simp at hy
      subst hy
      have : i = n := by omega
      subst this
      exact hx

/-- A slice of tokens that came in, as the walk wants it. -/
theorem open_tokens {H : Type} {enc : TypeId × Value → H} {w : World} {base : Nat} {spare : Nat → Bool} {held : Bool} {fuel : Nat} {A : Option Addr} {n c : Nat} {x : DataW H × List MemPlace}
    (h : DataW.trod enc Try.prog w base spare held fuel 23 [.slice A n c] = some x) : ∃ l : List S34, l.length = n ∧ n ≤ c ∧ Kd.C k34 w A n l := by
  have hC : Try.prog.cellsOf 34 = 3 := by kernel_rfl
  have hC1 : Try.prog.cellsOf 3 = 1 := by kernel_rfl
  rcases open_slice Try.underlying23 h with ⟨hcs, _⟩ | ⟨a, len, cap, m, q, D, Pl, hcs, _, hl, hm, hmm, _, hi⟩
  · simp at hcs
    obtain ⟨rfl, rfl, rfl⟩ := hcs
    exact ⟨[], rfl, Nat.le_refl _, rfl, by omega, fun h => by omega⟩
  · simp at hcs
    obtain ⟨rfl, rfl, rfl⟩ := hcs
    have hnm : n ≤ m := by rw [hmm]; split <;> omega
    obtain ⟨l, hll, hp⟩ := choose_list (fun i (s : S34) => w.cell? (a.add (i * 3)) = some (.int .i64 s.f0) ∧ w.cell? (a.add (i * 3 + 1)) = some (.int .i64 s.f1) ∧ w.cell? (a.add (i * 3 + 2)) = some (.int .i64 s.f2)) n (fun i hin => by
      obtain ⟨cs', hc, ht⟩ := hi i (by omega)
      rw [hC] at hc
      obtain ⟨_, hlen, hat⟩ := World.cells?_some hc
      obtain ⟨ys, r, _, _, _, hyl, hf⟩ := DataW.trod_struct Try.underlying34 ht
      match cs', hlen, ys, hyl with
      | [c0, c1, c2], _, [y0, y1, y2], _ =>
        have t0 : DataW.trod enc Try.prog w base spare held r 3 (([c0, c1, c2].drop 0).take (Try.prog.cellsOf 3)) = some y0 := hf 0 _ rfl
        have t1 : DataW.trod enc Try.prog w base spare held r 3 (([c0, c1, c2].drop 1).take (Try.prog.cellsOf 3)) = some y1 := hf 1 _ rfl
        have t2 : DataW.trod enc Try.prog w base spare held r 3 (([c0, c1, c2].drop 2).take (Try.prog.cellsOf 3)) = some y2 := hf 2 _ rfl
        rw [hC1] at t0 t1 t2
        obtain ⟨n0, e0, _⟩ := DataW.trod_int Try.underlying3 t0
        obtain ⟨n1, e1, _⟩ := DataW.trod_int Try.underlying3 t1
        obtain ⟨n2, e2, _⟩ := DataW.trod_int Try.underlying3 t2
        obtain rfl : c0 = .int .i64 n0 := by simpa using e0
        obtain rfl : c1 = .int .i64 n1 := by simpa using e1
        obtain rfl : c2 = .int .i64 n2 := by simpa using e2
        have g0 := hat 0 (by omega)
        have g1 := hat 1 (by omega)
        have g2 := hat 2 (by omega)
        rw [Go.Deep.add_add] at g0 g1 g2
        exact ⟨⟨n0, n1, n2⟩, g0, g1, g2⟩)
    refine ⟨l, hll, hl, hll, by unfold maxLen at hm; omega, fun _ => ⟨a, rfl, fun j p hj => ?_⟩⟩
    obtain ⟨h0, h1, h2⟩ := hp j p hj
    refine ⟨[.int .i64 p.f0, .int .i64 p.f1, .int .i64 p.f2], rfl, k34_mk w p, fun i u hu => ?_⟩
    match i, hu with
    | 0, hu => simp at hu; subst hu; exact h0
    | 1, hu => simp at hu; subst hu; exact h1
    | 2, hu => simp at hu; subst hu; exact h2

set_option maxRecDepth 100000 in
theorem lifted (os : Os) (started : os.Started) (H : Type) (enc : TypeId × Value → H) :
    ReturnsInHanded {} Try.checked os 4 .any (Rows.lzExpandsSpec.pre6 enc Try.prog Try.f4 Rows.lzExpandsRow.domain false) (Rows.lzExpandsSpec.post enc Try.prog Try.f4 false true false false) := by
  refine returnsInHanded_of_change_sized (C := Try.checked) own started (by kernel_rfl) Try.func4
    (ChangeSpec.witness6 (enc := enc) (C := Try.checked) false ⟨#[], #[.slice none 0 0], []⟩ 8 (by kernel_rfl) (by kernel_rfl) (by kernel_rfl) (by kernel_rfl)) ?_
  intro W base args ds gs before hval0 hW hcnd hsz0 _
  have hsz : (DataW.weightsEach Try.prog (Try.f4.params.toList ++ Rows.lzExpandsSpec.plain.varTypes Try.prog) (ds ++ gs)).all (· ≤ reachBytes) = true := hsz0
  have hval : ∀ (j : Nat) t v, Try.f4.params[j]? = some t → args[j]? = some v → Value.okWide Try.prog W .any base t v := hval0
  have hW' := hW
  obtain ⟨p, q, hA0, hV, rfl, hfz, hnd⟩ := hW
  have hA : DataW.TrodAll enc Try.prog W 0 (fun _ => true) true Try.f4.params.toList args.toList ds p := hA0
  rw [Try.params4] at hA hval hsz
  obtain ⟨v0, vs0, d0, ds0, p0, q0, hargs, rfl, rfl, h0, r0⟩ := trodAll_cons hA
  obtain ⟨rfl, rfl, rfl⟩ := trodAll_nil r0
  obtain rfl : args = #[v0] := by cases args; simp_all
  obtain ⟨rfl, rfl⟩ := trodVars_none hV
  obtain ⟨A0, len0, cap0, rfl⟩ := okWide_slice Try.underlying23 (hval 0 23 v0 rfl rfl)
  have k0 := h0
  have lt0 : ∀ x ∈ p0, x.block < W.heap.size := by obtain ⟨m, hm⟩ := k0; exact DataW.trod_lt m _ _ _ hm
  obtain ⟨l, hll, hlc, hC⟩ : ∃ l : List S34, l.length = len0 ∧ len0 ≤ cap0 ∧ Kd.C k34 W A0 len0 l := by
    obtain ⟨fuel, hf⟩ := h0
    exact open_tokens hf
  subst hll
  clear hA0 hval0 hsz0 hsz
  obtain ⟨k, hk⟩ := Pure.LzExpands l
  refine (Pr.vitrinelaw04_LzExpands.calls k A0 cap0 l true W hC hlc hk).mono fun e W' ⟨he, bel⟩ => ?_
  subst he
  exact ⟨_, rfl, _, _, _, [], _, [], hW', trodAll_mk1 (shut_bool Try.underlying4 _), (trodAll_cons_mk (Below.trod laidOut (by kernel_rfl) (of_decide_eq_true (by kernel_rfl)) k0 bel lt0) trodAll_mk0), rfl, bel.frame _, fun h => by cases h⟩
theorem over : Rows.lzExpandsRow.holds Try.pinned (OpenSpec.ofChange Rows.lzExpandsSpec) :=
  OpenClaim.holds_of_wide 4 Try.f4 rfl rfl rfl rfl rfl rfl rfl ⟨rfl, rfl, rfl, rfl, rfl⟩ rfl rfl rfl rfl rfl (by kernel_rfl) Try.func4 (by kernel_rfl)
    (of_decide_eq_true (by kernel_rfl)) (by unfold Func.isWrapper; first | (rw [if_pos (by decide +kernel)]; kernel_rfl) | (rw [if_neg (by decide +kernel)]; exact ⟨rfl, rfl⟩))
    (fun os started H enc _ => lifted os started H enc)
theorem proved : Rows.LzExpandsSaid := over
#print axioms proved
end Go.Proofs.Ytlhgdkaaomdipaa.lzExpands
namespace Go.Proofs.Ytlhgdkaaomdipaa
/-- The row, under a short name, for the claim. -/
theorem lzExpands_holds : Rows.LzExpandsSaid := lzExpands.proved
end Go.Proofs.Ytlhgdkaaomdipaa
