/- Layer 2 (huff): SortStableFunc at a nil slice of ints. -/
import Derived.Test.YtpldapjcojjicaaMk3
namespace Go.Proofs.Ytpldapjcojjicaa.B
open Go.Proofs Go.RowKit Go.Proofs.YtpldapjcojjicaaW.PrintWords Go.Proofs.YtpldapjcojjicaaW.PrintLast Go.Proofs.YtpldapjcojjicaaW.PrintMore
set_option linter.unusedVariables false
set_option linter.unusedSimpArgs false
set_option maxRecDepth 100000 in
theorem nil71 (W : World) (f : Value) : Calls Try.prog 71 #[.slice none 0 0, .int .i64 0, .int .i64 0, f] W fun e W' => e = .returned (.tuple #[]) ∧ W' = W := by
  go_enter Try.func71, Try.ntmps71
  go_wp2
  go_loopg [8] 0 (fun gh v8 wr => v8 = .int .i64 1 ∧ wr = W)
  case atStart => exact ⟨by go_num, rfl⟩
  case round =>
    obtain ⟨rfl, rfl⟩ := hrel
    go_wp2
    go_end0
    exact ⟨rfl, rfl⟩
set_option maxRecDepth 100000 in
theorem nil67 (W : World) (f : Value) : Calls Try.prog 67 #[.slice none 0 0, .int .i64 0, f] W fun e W' => e = .returned (.tuple #[]) ∧ W' = W := by
  have h71 := fun W' => nil71 W' f
  go_enter Try.func67, Try.ntmps67
  go_wp2
  go_loopg [7, 8] 0 (fun gh v7 v8 wr => v7 = .int .i64 0 ∧ v8 = .int .i64 20 ∧ wr = W)
  case atStart => exact ⟨rfl, rfl, rfl⟩
  case round =>
    obtain ⟨rfl, rfl, rfl⟩ := hrel
    go_wp2_with (go_at_call 71; refine (h71 _).mono ?_; rintro e w1 ⟨rfl, rfl⟩)
    go_loopg [6] 0 (fun gh v6 wr2 => v6 = .int .i64 20 ∧ wr2 = w1)
    case atStart => exact ⟨rfl, rfl⟩
    case round =>
      obtain ⟨rfl, rfl⟩ := hrel
      go_wp2
      go_end0
      exact ⟨rfl, rfl⟩
set_option maxRecDepth 100000 in
theorem nil61 (W : World) (f : Value) : Calls Try.prog 61 #[.slice none 0 0, f] W fun e W' => e = .returned (.tuple #[]) ∧ W' = W := by
  have h67 := fun W' => nil67 W' f
  go_enter Try.func61, Try.ntmps61
  go_wp2_with (go_at_call 67; refine (h67 _).mono ?_; rintro e w1 ⟨rfl, rfl⟩)
  go_end0
  exact ⟨rfl, rfl⟩
end Go.Proofs.Ytpldapjcojjicaa.B
