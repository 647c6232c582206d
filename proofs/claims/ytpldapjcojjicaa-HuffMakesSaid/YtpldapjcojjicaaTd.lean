/- Layer 2 (huff): tables in plain Lean: what Make, Next and the document's Next tell: the definitions. -/
import Derived.Test.YtpldapjcojjicaaRd2
namespace Go.Proofs.Ytpldapjcojjicaa.B
open Go.RowKit Go.Proofs.YtpldapjcojjicaaW.PrintWords Go.Proofs.YtpldapjcojjicaaW.PrintLast Go.Proofs.YtpldapjcojjicaaW.PrintMore
set_option linter.unusedVariables false
set_option linter.unusedSimpArgs false

/-- The symbols that have codes, in their order; i is the first one's number. -/
def symGo : List Int → Nat → List Nat
  | [], _ => []
  | x :: r, i => if 0 < x then i :: symGo r (i + 1) else symGo r (i + 1)
theorem symGo_cons (x : Int) (r : List Int) (i : Nat) : symGo (x :: r) i = if 0 < x then i :: symGo r (i + 1) else symGo r (i + 1) := rfl
theorem symGo_mem : ∀ (l : List Int) (i x : Nat), x ∈ symGo l i → i ≤ x ∧ x < i + l.length
  | [], i, x, h => by cases h
  | y :: r, i, x, h => by
    rw [symGo_cons] at h
    rw [List.length_cons]
    split at h
    · rcases List.mem_cons.1 h with rfl | h
      · omega
      · have := symGo_mem r (i + 1) x h
        omega
    · have := symGo_mem r (i + 1) x h
      omega
/-- How many symbols have lengths below n + 1. -/
def seenF (N : List Int) : Nat → Int
  | 0 => 0
  | k + 1 => seenF N k + N.getD (k + 1) 0
/-- The document's look for a code of length n. -/
def findX (n code : Int) : List Int → List Int → Nat → Option Nat
  | x :: r, c :: s, i => if x = n ∧ c = code then some i else findX n code r s (i + 1)
  | _, _, _ => none
theorem findX_cons (n code x c : Int) (r s : List Int) (i : Nat) : findX n code (x :: r) (c :: s) i = if x = n ∧ c = code then some i else findX n code r s (i + 1) := rfl
/-- What a table's Next tells, from r lengths ahead of the end on: the number, the error, the reader behind. -/
def nextP (N : List Int) (S : List Nat) : Nat → Nat → Int → Int → Int → ByteArray → Nat → Nat → Int × Int × ByteArray × Nat × Nat
  | 0, _, _, _, _, d, h, m => (0, 12, d, h, m)
  | r + 1, n, code, start, seen, d, h, m =>
    if (rbitsF d h m 1).2.1 ≠ 0 then (0, (rbitsF d h m 1).2.1, (rbitsF d h m 1).2.2)
    else if 2 * code + (rbitsF d h m 1).1 - 2 * start < N.getD n 0 then ((S.getD (seen + (2 * code + (rbitsF d h m 1).1 - 2 * start)).toNat 0 : Nat), 0, (rbitsF d h m 1).2.2)
    else nextP N S r (n + 1) (2 * code + (rbitsF d h m 1).1) (2 * start + N.getD n 0) (seen + N.getD n 0) (rbitsF d h m 1).2.2.1 (rbitsF d h m 1).2.2.2.1 (rbitsF d h m 1).2.2.2.2
/-- What the document's Next tells. -/
def nextX (l C : List Int) : Nat → Nat → Int → ByteArray → Nat → Nat → Int × Int × ByteArray × Nat × Nat
  | 0, _, _, d, h, m => (0, 12, d, h, m)
  | r + 1, n, code, d, h, m =>
    if (rbitsF d h m 1).2.1 ≠ 0 then (0, (rbitsF d h m 1).2.1, (rbitsF d h m 1).2.2)
    else match findX n (2 * code + (rbitsF d h m 1).1) l C 0 with
      | some i => ((i : Nat), 0, (rbitsF d h m 1).2.2)
      | none => nextX l C r (n + 1) (2 * code + (rbitsF d h m 1).1) (rbitsF d h m 1).2.2.1 (rbitsF d h m 1).2.2.2.1 (rbitsF d h m 1).2.2.2.2
theorem rbitsF_bit (d : ByteArray) (h m : Nat) (hh : h < 2 ^ m) : 0 ≤ (rbitsF d h m 1).1 := by
  unfold rbitsF
  split
  · exact Int.le_refl _
  · split
    · exact Int.le_refl _
    · simp only []
      omega
theorem rbitsF_one (d : ByteArray) (h m : Nat) : 0 ≤ (rbitsF d h m 1).1 ∧ (rbitsF d h m 1).1 ≤ 1 := by
  unfold rbitsF
  split
  · exact ⟨Int.le_refl 0, show (0 : Int) ≤ 1 by decide⟩
  · split
    · exact ⟨Int.le_refl 0, show (0 : Int) ≤ 1 by decide⟩
    · simp only [show (1 : Int).toNat = 1 from rfl, Nat.pow_one]
      omega
theorem nextP_ok (N : List Int) (S : List Nat) : ∀ (r n : Nat) (code start seen : Int) (d : ByteArray) (h m : Nat), m ≤ 7 → h < 2 ^ m →
    (nextP N S r n code start seen d h m).2.2.2.1 < 2 ^ (nextP N S r n code start seen d h m).2.2.2.2 ∧ (nextP N S r n code start seen d h m).2.2.2.2 ≤ 7 ∧ (nextP N S r n code start seen d h m).2.2.1.size ≤ d.size
  | 0, n, code, start, seen, d, h, m, hm, hh => ⟨hh, hm, Nat.le_refl _⟩
  | r + 1, n, code, start, seen, d, h, m, hm, hh => by
    have hok := rbitsF_ok d h m 1 hm hh
    unfold nextP
    split
    · exact hok
    · split
      · exact hok
      · have := nextP_ok N S r (n + 1) (2 * code + (rbitsF d h m 1).1) (2 * start + N.getD n 0) (seen + N.getD n 0) (rbitsF d h m 1).2.2.1 (rbitsF d h m 1).2.2.2.1 (rbitsF d h m 1).2.2.2.2 hok.2.1 hok.1
        exact ⟨this.1, this.2.1, Nat.le_trans this.2.2 hok.2.2⟩
end Go.Proofs.Ytpldapjcojjicaa.B
