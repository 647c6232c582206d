/- Layer 1 (bits): whole bytes off a reader; a new reader, a new writer: their contracts. -/
import Derived.Test.YtpldapjcojjicaaRd
namespace Go.Proofs.Ytpldapjcojjicaa.B
open Go.RowKit Go.Proofs.YtpldapjcojjicaaW.PrintWords Go.Proofs.YtpldapjcojjicaaW.PrintLast
set_option linter.unusedVariables false
set_option linter.unusedSimpArgs false

/-- What Bytes tells. -/
def rbytesF (d : ByteArray) (h n : Nat) (k : Int) : ByteArray × Int × ByteArray × Nat × Nat :=
  if k < 0 then (⟨#[]⟩, 1, d, h, n) else if (d.size : Int) < k then (⟨#[]⟩, 3, d, 0, 0) else (d.extract 0 k.toNat, 0, d.extract k.toNat d.size, 0, 0)

set_option maxHeartbeats 400000 in
set_option maxRecDepth 100000 in
theorem rbytes_calls (W : World) (g : Nat) (d : ByteArray) (h n : Nat) (k : Int) (hI : IsR W g d h n) (hd : d.size ≤ 140737488355328) :
    Calls Try.prog 19 #[.pointer (some ⟨g, 0, none⟩), .int .i64 k] W fun e W' => e = .returned (.tuple #[.string (rbytesF d h n k).1, .int .i64 (rbytesF d h n k).2.1]) ∧ IsR W' g (rbytesF d h n k).2.2.1 (rbytesF d h n k).2.2.2.1 (rbytesF d h n k).2.2.2.2 ∧ Fr (· = g) W W' := by
  have c0 : W.cell? ⟨g, 0, none⟩ = some (.string d) := (blk_cell hI 0).trans rfl
  have c1 : W.cell? ⟨g, 1, none⟩ = some (.int .i64 (h : Int)) := (blk_cell hI 1).trans rfl
  have c2 : W.cell? ⟨g, 2, none⟩ = some (.int .i64 (n : Int)) := (blk_cell hI 2).trans rfl
  have f0 := blk_frozen hI 0
  have f1 := blk_frozen hI 1
  have f2 := blk_frozen hI 2
  have hI := Aside0.mk hI
  unfold rbytesF
  by_cases h0 : k < 0
  · rw [if_pos h0]
    have k0 : decide (k < 0) = true := decide_eq_true h0
    go_enter Try.func19, Try.ntmps19
    go_wp2
    go_ret2
    exact ⟨rfl, hI.out, Fr.refl _ _⟩
  · rw [if_neg h0]
    have k0 : decide (k < 0) = false := decide_eq_false h0
    have z1 := blk_set (blk_set hI.out 1 (.int .i64 0)) 2 (.int .i64 0)
    have z2 := ((Fr.refl (· = g) W).set_ ⟨g, 1, none⟩ (.int .i64 0) (fun _ => rfl)).set_ ⟨g, 2, none⟩ (.int .i64 0) (fun _ => rfl)
    have z1 := Aside0.mk z1
    have z2 := Aside0.mk z2
    by_cases h1 : (d.size : Int) < k
    · rw [if_pos h1]
      have k1 : decide ((d.size : Int) < k) = true := decide_eq_true h1
      go_enter Try.func19, Try.ntmps19
      go_wp2
      go_ret2
      exact ⟨rfl, z1.out, z2.out⟩
    · rw [if_neg h1]
      obtain ⟨q, rfl⟩ : ∃ q : Nat, k = q := ⟨k.toNat, by omega⟩
      have k1 : decide ((d.size : Int) < (q : Int)) = false := decide_eq_false h1
      have k1' : decide (d.size < q) = false := decide_eq_false (by omega)
      go_enter Try.func19, Try.ntmps19
      go_wp2
      go_ret2
      exact ⟨rfl, blk_set z1.out 0 (.string (d.extract q d.size)), z2.out.set_ ⟨g, 0, none⟩ _ (fun _ => rfl)⟩

theorem read_calls (W : World) (d : ByteArray) :
    Calls Try.prog 18 #[.string d] W fun e W' => e = .returned (.pointer (some ⟨W.heap.size, 0, none⟩)) ∧ W' = W.alloc (.cells #[.string d, .int .i64 0, .int .i64 0] 75) := by
  go_enter Try.func18, Try.ntmps18
  go_wp2
  go_ret
  exact ⟨rfl, rfl⟩
theorem new_calls (W : World) :
    Calls Try.prog 25 #[] W fun e W' => e = .returned (.pointer (some ⟨W.heap.size, 0, none⟩)) ∧ W' = W.alloc (.cells #[.slice none 0 0, .int .i64 0, .int .i64 0] 77) := by
  go_enter Try.func25, Try.ntmps25
  go_wp2
  go_ret
  exact ⟨rfl, rfl⟩
end Go.Proofs.Ytpldapjcojjicaa.B
