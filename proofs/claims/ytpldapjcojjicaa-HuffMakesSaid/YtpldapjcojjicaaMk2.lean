/- Layer 2 (huff): the comparison that Make hands to the sort: its contract. -/
import Derived.Test.YtpldapjcojjicaaMk1
import Derived.Test.YtpldapjcojjicaaSi7
import Derived.Deep.QuietTactic
import Derived.BigQuiet
namespace Go.Proofs.Ytpldapjcojjicaa.B
open Go.RowKit Go.Proofs.YtpldapjcojjicaaW.PrintWords Go.Proofs.YtpldapjcojjicaaW.PrintLast Go.Proofs.YtpldapjcojjicaaW.PrintMore
set_option linter.unusedVariables false
set_option linter.unusedSimpArgs false
set_option maxHeartbeats 1000000 in
set_option maxRecDepth 100000 in
theorem make1_calls (W : World) (B : Nat) (A : Option Addr) (c : Nat) (l : List Int) (hB : W.cell? ⟨B, 0, none⟩ = some (.slice A l.length c)) (hC : Kd.C (Kd.int .i64) W A l.length l) (x y : Nat) (hx : x < l.length) (hy : y < l.length) :
    Calls Try.prog 62 #[.int .i64 (x : Int), .int .i64 (y : Int), .pointer (some ⟨B, 0, none⟩)] W fun e W' => e = .returned (.int .i64 (cmpI (l.getD x 0) (l.getD y 0))) ∧ ∃ q, W' = W.drewN q := by
  obtain ⟨ad, eA, h1⟩ := Kd.at_int hC (x : Int) (by omega) (by omega)
  obtain ⟨ad2, eA2, h2⟩ := Kd.at_int hC (y : Int) (by omega) (by omega)
  subst eA
  cases eA2
  have r1 : rd l (x : Int) = l.getD x 0 := by unfold rd; rw [Int.toNat_natCast]
  have r2 : rd l (y : Int) = l.getD y 0 := by unfold rd; rw [Int.toNat_natCast]
  rw [r1, Int.toNat_natCast] at h1
  rw [r2, Int.toNat_natCast] at h2
  have p1 := eq_true (show (0 : Int) ≤ (x : Int) by omega)
  have q1 := eq_true (show (x : Int) < (l.length : Int) by omega)
  have p2 := eq_true (show (0 : Int) ≤ (y : Int) by omega)
  have q2 := eq_true (show (y : Int) < (l.length : Int) by omega)
  have q3 := eq_true hx
  have q4 := eq_true hy
  have hcmp := fun W' => compare_calls W' (l.getD x 0) (l.getD y 0)
  clear r1 r2 hC hx hy
  generalize l.getD x 0 = u at *
  generalize l.getD y 0 = v at *
  generalize cmpI u v = z at *
  have hcmp := Aside0.mk hcmp
  go_enter Try.func62, Try.ntmps62
  go_wp2
  go_quiet (first | (go_at_call 63; refine Calls.quiet_of_same (hcmp.out _)))
  go_wp2
  go_ret
  exact ⟨rfl, _, rfl⟩
end Go.Proofs.Ytpldapjcojjicaa.B
