/- Layer 2 (huff): HuffLimits in plain Lean. -/
import Derived.Test.YtpldapjcojjicaaPz7
import Derived.Test.YtpldapjcojjicaaPw3
namespace Go.Proofs.Ytpldapjcojjicaa.Pure
open Go.RowKit Go.Proofs.Ytpldapjcojjicaa.Pl Go.Proofs.Ytpldapjcojjicaa.B Go.Proofs.YtpldapjcojjicaaW.PrintWords Go.Proofs.YtpldapjcojjicaaW.PrintLast Go.Proofs.YtpldapjcojjicaaW.PrintMore
theorem HuffLimits : vitrinelaw02_HuffLimits.Pure := by
  intro most l _ _ h8 _
  obtain ⟨K, h⟩ := ref_limit most l
  have hl := limitF_len most l
  have h : ∀ k, K ≤ k → vitrineref02_Limit.f k most l = some (limitF most l) := h
  refine ⟨K + 300, ?_⟩
  unfold vitrinelaw02_HuffLimits.f huff_Limit.f vitrinelaw02_awake.f
  rw [if_pos (by omega), h _ (by omega)]
  simp only [Option.bind_some]
  rw [if_pos trivial, ints_self _ _ (by omega) (by omega)]
  rfl
end Go.Proofs.Ytpldapjcojjicaa.Pure
