/- Layer 4 (lz): the chapter's examples; lists that are the same; statement LzTokens. -/
import Derived.Test.YtlhgdkaaomdipaaM2
import Derived.Test.YtlhgdkaaomdipaaPr3
namespace Go.Proofs.Ytlhgdkaaomdipaa.Tok
open Go.RowKit Go.Proofs.YtlhgdkaaomdipaaW.PrintWords Go.Proofs.Ytlhgdkaaomdipaa.Pr
set_option linter.unusedVariables false

theorem awake_true : Ev (fun k => vitrinelaw04_awake.f k) true := by
  refine Ev.of vitrinelaw04_awake.mono (k := 20) ?_
  unfold vitrinelaw04_awake.f
  rw [tok_a, tok_b]
  kernel_rfl

theorem tokens_same_l (l : List S34) (hl : l.length ≤ 20000) : ∀ m, m ≤ l.length → Ev (fun k => vitrinelaw04_tokens.l0 k l l ((l.length - m : Nat) : Int)) true := by
  intro m
  induction m with
  | zero =>
    intro _
    refine Ev.step (fun k => ?_) (Ev.now true)
    simp only [vitrinelaw04_tokens.l0]
    rw [if_neg (by omega)]
  | succ m ih =>
    intro hm
    refine Ev.step (fun k => ?_) (ih (by omega))
    simp only [vitrinelaw04_tokens.l0]
    rw [if_pos (by omega), if_pos (by omega), if_pos (by omega), if_neg (by simp), w64 _ (by omega)]
    congr 1
    omega
theorem tokens_same (l : List S34) (hl : l.length ≤ 20000) : Ev (fun k => vitrinelaw04_tokens.f k l l) true := by
  refine Ev.congr (fun k => ?_) (tokens_same_l l hl l.length (Nat.le_refl _))
  unfold vitrinelaw04_tokens.f
  rw [if_pos rfl]
  simp

end Go.Proofs.Ytlhgdkaaomdipaa.Tok
