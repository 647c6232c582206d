/- LzTokens: the tokens of any bytes, as the program finds them, are the document's. For every input. -/
import Derived.Test.YtlhgdkaaomdipaaM3
import Derived.Test.YtlhgdkaaomdipaaPr4
namespace Go.Proofs.Ytlhgdkaaomdipaa.Pure
open Go.RowKit Go.Proofs.Ytlhgdkaaomdipaa.Pr Go.Proofs.YtlhgdkaaomdipaaW.PrintWords Go.Proofs.YtlhgdkaaomdipaaW.PrintLast Go.Proofs.Ytlhgdkaaomdipaa.Tok

theorem LzTokens : vitrinelaw04_LzTokens.Pure := by
  intro d hd
  refine Ev.rounds (g := fun k => vitrinelaw04_LzTokens.f k d) (r := true) ?_
  by_cases h : 20000 < d.size
  · refine Ev.congr (fun k => ?_) awake_true
    unfold vitrinelaw04_LzTokens.f
    rw [if_pos (by omega)]
    cases vitrinelaw04_awake.f k <;> rfl
  · have ht := toks_len d 0
    have hf : lz_Tokens.f d = some (toks d 0) := by unfold lz_Tokens.f; rw [if_pos (by omega)]
    obtain ⟨K1, h1⟩ := ref_toks d (by omega)
    obtain ⟨K2, h2⟩ := tokens_same (toks d 0) (by omega)
    obtain ⟨K3, h3⟩ := awake_true
    refine ⟨max K1 (max K2 K3), fun k hk => ?_⟩
    have h1' := h1 k (by omega)
    have h2' := h2 k (by omega)
    have h3' := h3 k (by omega)
    simp only at h1' h2' h3' ⊢
    unfold vitrinelaw04_LzTokens.f
    rw [if_neg (by omega), hf]
    simp only [Option.bind_some, h1', h2', h3', if_true]

end Go.Proofs.Ytlhgdkaaomdipaa.Pure
