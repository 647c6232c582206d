/- LzExpands: what any tokens say, as the program tells it, is what the document tells; the list handed in stays. For every input. -/
import Derived.Test.YtlhgdkaaomdipaaM4
namespace Go.Proofs.Ytlhgdkaaomdipaa.Pure
open Go.RowKit Go.Proofs.Ytlhgdkaaomdipaa.Pr Go.Proofs.YtlhgdkaaomdipaaW.PrintWords Go.Proofs.YtlhgdkaaomdipaaW.PrintLast Go.Proofs.Ytlhgdkaaomdipaa.Tok

theorem LzExpands (l : List S34) : ∃ k, vitrinelaw04_LzExpands.f k l = some true := by
  refine Ev.rounds (g := fun k => vitrinelaw04_LzExpands.f k l) (r := true) ?_
  by_cases h : 2000 < l.length
  · refine Ev.congr (fun k => ?_) awake_true
    unfold vitrinelaw04_LzExpands.f
    rw [if_pos (by omega)]
    cases vitrinelaw04_awake.f k <;> rfl
  · obtain ⟨K1, h1⟩ := exp_say l (by omega)
    obtain ⟨K2, h2⟩ := rexp_say l (by omega)
    obtain ⟨K3, h3⟩ := tokens_same l (by omega)
    obtain ⟨K4, h4⟩ := awake_true
    refine ⟨max (max K1 K2) (max K3 K4), fun k hk => ?_⟩
    have h1' := h1 k (by omega)
    have h2' := h2 k (by omega)
    have h3' := h3 k (by omega)
    have h4' := h4 k (by omega)
    simp only at h1' h2' h3' h4' ⊢
    unfold vitrinelaw04_LzExpands.f
    rw [if_neg (by omega)]
    simp only [Option.bind_some, List.nil_append, List.length_nil, Nat.zero_add]
    rw [if_pos (by omega)]
    simp only [h1', h2', h3', h4', Option.bind_some, if_true]

end Go.Proofs.Ytlhgdkaaomdipaa.Pure
