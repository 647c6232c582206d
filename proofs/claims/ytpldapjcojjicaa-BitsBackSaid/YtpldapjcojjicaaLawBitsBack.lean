/- BitsBack, the row: whatever calls are handed in, the law returns true and they read as they did. -/
import Derived.Test.YtpldapjcojjicaaRows
import Derived.Test.YtpldapjcojjicaaLb
import Derived.Test.YtpldapjcojjicaaOps
namespace Go.Proofs.Ytpldapjcojjicaa.bitsBack
open Go.ChangeShapes Go.WideShapes Go.ChangeAt Go.RowKit Go.Deep
open Go.ChangeMaps (open_string shut_string)
open Go.Proofs.Ytpldapjcojjicaa.Pb Go.Proofs.YtpldapjcojjicaaW.PrintWords Go.Proofs.Ytpldapjcojjicaa.B
set_option linter.unusedVariables false
theorem own : ownKnob Try.prog.godebug = none := by kernel_rfl
set_option maxRecDepth 100000 in
theorem lifted (os : Os) (started : os.Started) (H : Type) (enc : TypeId × Value → H) :
    ReturnsInHanded {} Try.checked os 6 .any (Rows.bitsBackSpec.pre6 enc Try.prog Try.f6 Rows.bitsBackRow.domain false) (Rows.bitsBackSpec.post enc Try.prog Try.f6 false true false false) := by
  refine returnsInHanded_of_change_sized (C := Try.checked) own started (by kernel_rfl) Try.func6
    (ChangeSpec.witness6 (enc := enc) (C := Try.checked) false ⟨#[], #[.slice none 0 0], []⟩ 8 (by kernel_rfl) (by kernel_rfl) (by kernel_rfl) (by kernel_rfl)) ?_
  intro W base args ds gs before hval0 hW hcnd hsz0 _
  have hsz : (DataW.weightsEach Try.prog (Try.f6.params.toList ++ Rows.bitsBackSpec.plain.varTypes Try.prog) (ds ++ gs)).all (· ≤ reachBytes) = true := hsz0
  have hval : ∀ (j : Nat) t v, Try.f6.params[j]? = some t → args[j]? = some v → Value.okWide Try.prog W .any base t v := hval0
  have hW' := hW
  obtain ⟨p, q, hA0, hV, rfl, hfz, hnd⟩ := hW
  have hA : DataW.TrodAll enc Try.prog W 0 (fun _ => true) true Try.f6.params.toList args.toList ds p := hA0
  rw [Try.params6] at hA hval hsz
  obtain ⟨v1, vs1, d1, ds1, p1, q1, hargs, rfl, rfl, h1, r1⟩ := trodAll_cons hA
  obtain ⟨rfl, rfl, rfl⟩ := trodAll_nil r1
  obtain rfl : args = #[v1] := by cases args; simp_all
  obtain ⟨rfl, rfl⟩ := trodVars_none hV
  obtain ⟨A1, len1, cap1, rfl⟩ := okWide_slice Try.underlying25 (hval 0 25 v1 rfl rfl)
  have k1 := h1
  have lt1 : ∀ x ∈ p1, x.block < W.heap.size := by obtain ⟨m, hm⟩ := k1; exact DataW.trod_lt m _ _ _ hm
  obtain ⟨l, hll, hlc, hC⟩ : ∃ l : List S32, l.length = len1 ∧ len1 ≤ cap1 ∧ Kd.C k32 W A1 len1 l := by
    obtain ⟨fuel, hf⟩ := h1
    exact open_ops hf
  subst hll
  clear hA0 hval0 hsz0 hsz
  refine (bback_calls W A1 cap1 l hC).mono fun e W' ⟨he, bel⟩ => ?_
  subst he
  exact ⟨_, rfl, _, _, _, [], _, [], hW', trodAll_mk1 (shut_bool Try.underlying4 _), (trodAll_cons_mk (Below.trod laidOut (by kernel_rfl) (of_decide_eq_true (by kernel_rfl)) k1 bel lt1) trodAll_mk0), rfl, bel.frame _, fun h => by cases h⟩
theorem over : Rows.bitsBackRow.holds Try.pinned (OpenSpec.ofChange Rows.bitsBackSpec) :=
  OpenClaim.holds_of_wide 6 Try.f6 rfl rfl rfl rfl rfl rfl rfl ⟨rfl, rfl, rfl, rfl, rfl⟩ rfl rfl rfl rfl rfl (by kernel_rfl) Try.func6 (by kernel_rfl)
    (of_decide_eq_true (by kernel_rfl)) (by unfold Func.isWrapper; first | (rw [if_pos (by decide +kernel)]; kernel_rfl) | (rw [if_neg (by decide +kernel)]; exact ⟨rfl, rfl⟩))
    (fun os started H enc _ => lifted os started H enc)
theorem proved : Rows.BitsBackSaid := over
#print axioms proved
end Go.Proofs.Ytpldapjcojjicaa.bitsBack
namespace Go.Proofs.Ytpldapjcojjicaa
/-- The row, under a short name, for the claim. -/
theorem bitsBack_holds : Rows.BitsBackSaid := bitsBack.proved
end Go.Proofs.Ytpldapjcojjicaa
