/- Layer 1 (bits): the bytes of a call (Op.text): some text of at most 50 bytes, told by the call alone. -/
import Derived.Test.YtpldapjcojjicaaPt1
import Derived.Test.YtpldapjcojjicaaFr
namespace Go.Proofs.Ytpldapjcojjicaa.B
open Go.RowKit Go.Proofs.YtpldapjcojjicaaW.PrintWords Go.Proofs.YtpldapjcojjicaaW.PrintLast Go.Proofs.YtpldapjcojjicaaW.PrintMore Go.Proofs.Ytpldapjcojjicaa.Pt
set_option linter.unusedVariables false

theorem text_l0 (wh : Bool) (N V : Int) : ∀ (m : Nat) (xs : List Int) (i : Nat), i + m = xs.length → xs.length ≤ 50 → ∃ ys : List Int, ys.length = xs.length ∧ Ev (fun k => vitrinelaw01_Op_text.l0 k xs (i : Int) wh N V) (strOfNums ys) := by
  intro m
  induction m with
  | zero =>
    intro xs i hi hl
    refine ⟨xs, rfl, Ev.step (fun k => ?_) (Ev.now _)⟩
    simp only [vitrinelaw01_Op_text.l0]
    rw [if_neg (by omega)]
  | succ m ih =>
    intro xs i hi hl
    obtain ⟨ys, h1, h2⟩ := ih (xs.set i ((wrap64 (V + (i : Int))) % 256)) (i + 1) (by rw [List.length_set]; omega) (by rw [List.length_set]; exact hl)
    refine ⟨ys, by rw [h1, List.length_set], Ev.step (fun k => ?_) h2⟩
    have e : wrap64 ((i : Int) + 1) = ((i + 1 : Nat) : Int) := by rw [w64' _ (by omega)]; omega
    simp only [vitrinelaw01_Op_text.l0]
    rw [if_pos (by omega), if_pos (by omega), e, Int.toNat_natCast]
theorem text_one (wh : Bool) (N V : Int) : ∃ T : ByteArray, T.size ≤ 50 ∧ ∃ k, vitrinelaw01_Op_text.f k wh N V = some T := by
  have h0 : 0 ≤ mn (mx N 0) 50 := by unfold mn mx; omega
  have h1 : mn (mx N 0) 50 ≤ 50 := by unfold mn mx; omega
  obtain ⟨q, hq⟩ : ∃ q : Nat, mn (mx N 0) 50 = q := ⟨(mn (mx N 0) 50).toNat, by omega⟩
  obtain ⟨ys, h2, h3⟩ := text_l0 wh N V q (List.replicate q 0) 0 (by simp) (by simp; omega)
  refine ⟨strOfNums ys, by rw [strOfNums_size, h2]; simp; omega, Ev.rounds (Ev.congr (fun k => ?_) h3)⟩
  unfold vitrinelaw01_Op_text.f
  rw [hq, Int.toNat_natCast, if_pos (by omega), if_pos (by omega)]
  rfl
/-- The text of every call. -/
theorem text_all : ∃ tx : Bool → Int → Int → ByteArray, ∀ wh N V, (tx wh N V).size ≤ 50 ∧
    ∀ w, Calls Try.prog 27 #[.agg #[.bool wh, .int .i64 N, .int .i64 V]] w fun e w' => e = .returned (.string (tx wh N V)) ∧ Below w.heap.size w w' := by
  have h : ∀ p : Bool × Int × Int, ∃ T : ByteArray, T.size ≤ 50 ∧ ∃ k, vitrinelaw01_Op_text.f k p.1 p.2.1 p.2.2 = some T := fun p => text_one p.1 p.2.1 p.2.2
  obtain ⟨f, hf⟩ := Classical.axiomOfChoice h
  refine ⟨fun a b c => f (a, b, c), fun wh N V => ⟨(hf (wh, N, V)).1, fun w => ?_⟩⟩
  obtain ⟨k, hk⟩ := (hf (wh, N, V)).2
  exact vitrinelaw01_Op_text.calls k wh N V _ w hk
end Go.Proofs.Ytpldapjcojjicaa.B
