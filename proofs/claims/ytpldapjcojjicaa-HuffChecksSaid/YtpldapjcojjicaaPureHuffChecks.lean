/- Layer 2 (huff): HuffChecks in plain Lean. -/
import Derived.Test.YtpldapjcojjicaaPz1
namespace Go.Proofs.Ytpldapjcojjicaa.Pure
open Go.RowKit Go.Proofs.Ytpldapjcojjicaa.Pl Go.Proofs.Ytpldapjcojjicaa.B Go.Proofs.YtpldapjcojjicaaW.PrintWords Go.Proofs.YtpldapjcojjicaaW.PrintLast
theorem HuffChecks : vitrinelaw02_HuffChecks.Pure := by
  intro l _ h8 _
  refine ⟨2 * l.length + 2, ?_⟩
  unfold vitrinelaw02_HuffChecks.f huff_Check.f vitrinelaw02_awake.f
  rw [if_pos (by omega), check_is l _ (by omega)]
  simp
end Go.Proofs.Ytpldapjcojjicaa.Pure
