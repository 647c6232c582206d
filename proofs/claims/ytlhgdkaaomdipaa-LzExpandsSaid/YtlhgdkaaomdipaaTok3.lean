/- Layer 4 (lz): which tokens bytes are, as the program looks for them: plain functions. No walk in this text. -/
import Derived.Test.YtlhgdkaaomdipaaTok1
namespace Go.Proofs.Ytlhgdkaaomdipaa.Tok
open Go.RowKit Go.Proofs.YtlhgdkaaomdipaaW.PrintWords Go.Proofs.Ytlhgdkaaomdipaa.Pr
set_option linter.unusedVariables false

/-- How many bytes from i on are those from j on, n of them being so; 258 at the most. -/
def mrun (d : ByteArray) (i j n : Nat) : Nat :=
  if n < 258 ∧ i + n < d.size ∧ bt d ((i + n : Nat) : Int) = bt d ((j + n : Nat) : Int) then mrun d i j (n + 1) else n
termination_by 258 - n

/-- The places at hand, one behind the other: the longest run, and how far back. -/
def scan (d : ByteArray) (i : Nat) : List Nat → Nat → Nat → Nat × Nat
  | [], b, f => (b, f)
  | j :: r, b, f => if i - j ≤ 512 then
      (if b < mrun d i j 3 then (if mrun d i j 3 = 258 then (mrun d i j 3, i - j) else scan d i r (mrun d i j 3) (i - j))
       else (if b = 258 then (b, f) else scan d i r b f)) else (b, f)

def best (d : ByteArray) (i : Nat) : Nat × Nat := if i + 3 ≤ d.size then scan d i (posOf d i (key3 d i)).reverse 0 0 else (0, 0)

theorem mrun_step {d : ByteArray} {i j n : Nat} (c1 : n < 258) (c2 : i + n < d.size) (c3 : bt d ((i + n : Nat) : Int) = bt d ((j + n : Nat) : Int)) : mrun d i j (n + 1) = mrun d i j n := by
  conv => rhs; unfold mrun
  rw [if_pos ⟨c1, c2, c3⟩]
theorem mrun_stop {d : ByteArray} {i j n : Nat} (c : ¬ (n < 258 ∧ i + n < d.size ∧ bt d ((i + n : Nat) : Int) = bt d ((j + n : Nat) : Int))) : mrun d i j n = n := by
  unfold mrun
  rw [if_neg c]

theorem mrun_bd (d : ByteArray) (i j n : Nat) (h1 : n ≤ 258) (h2 : i + n ≤ d.size) : n ≤ mrun d i j n ∧ mrun d i j n ≤ 258 ∧ i + mrun d i j n ≤ d.size := by
  unfold mrun
  split
  · rename_i h
    have := mrun_bd d i j (n + 1) (by omega) (by omega)
    omega
  · omega
termination_by 258 - n

theorem scan_far {d : ByteArray} {i j : Nat} {r : List Nat} {b f : Nat} (h : ¬ i - j ≤ 512) : scan d i (j :: r) b f = (b, f) := by
  unfold scan
  rw [if_neg h]
theorem scan_more {d : ByteArray} {i j : Nat} {r : List Nat} {b f : Nat} (h : i - j ≤ 512) (h1 : b < mrun d i j 3) : scan d i (j :: r) b f = if mrun d i j 3 = 258 then (mrun d i j 3, i - j) else scan d i r (mrun d i j 3) (i - j) := by
  conv => lhs; unfold scan
  rw [if_pos h, if_pos h1]
theorem scan_same {d : ByteArray} {i j : Nat} {r : List Nat} {b f : Nat} (h : i - j ≤ 512) (h1 : ¬ b < mrun d i j 3) : scan d i (j :: r) b f = if b = 258 then (b, f) else scan d i r b f := by
  conv => lhs; unfold scan
  rw [if_pos h, if_neg h1]

theorem scan_bd (d : ByteArray) (i : Nat) (hi : i + 3 ≤ d.size) : ∀ (l : List Nat) (b f : Nat), (∀ j ∈ l, j < i) → b ≤ 258 → i + b ≤ d.size → (3 ≤ b → 1 ≤ f ∧ f ≤ 512 ∧ f ≤ i) →
    (scan d i l b f).1 ≤ 258 ∧ i + (scan d i l b f).1 ≤ d.size ∧ (3 ≤ (scan d i l b f).1 → 1 ≤ (scan d i l b f).2 ∧ (scan d i l b f).2 ≤ 512 ∧ (scan d i l b f).2 ≤ i)
  | [], b, f, _, h1, h2, h3 => ⟨h1, h2, h3⟩
  | j :: r, b, f, hl, h1, h2, h3 => by
    have hj := hl j (by simp)
    have hr : ∀ j ∈ r, j < i := fun x hx => hl x (by simp [hx])
    have hm := mrun_bd d i j 3 (by omega) hi
    unfold scan
    split
    · split
      · split
        · exact ⟨by simp; omega, by simp; omega, fun _ => ⟨by simp; omega, by simp; omega, by simp⟩⟩
        · exact scan_bd d i hi r _ _ hr (by omega) (by omega) (fun _ => ⟨by omega, by omega, by omega⟩)
      · split
        · exact ⟨h1, h2, h3⟩
        · exact scan_bd d i hi r _ _ hr h1 h2 h3
    · exact ⟨h1, h2, h3⟩

theorem best_bd (d : ByteArray) (i : Nat) (h : i ≤ d.size) : (best d i).1 ≤ 258 ∧ i + (best d i).1 ≤ d.size ∧ (3 ≤ (best d i).1 → 1 ≤ (best d i).2 ∧ (best d i).2 ≤ 512 ∧ (best d i).2 ≤ i) := by
  unfold best
  split
  · rename_i hi
    exact scan_bd d i hi _ 0 0 (fun j hj => (posOf_lt (List.mem_reverse.1 hj)).1) (by omega) (by omega) (by omega)
  · simp; omega

/-- The tokens from i on. -/
def toks (d : ByteArray) (i : Nat) : List S34 :=
  if h : i < d.size then
    (if h3 : (best d i).1 < 3 then ⟨bt d (i : Int), 0, 0⟩ :: toks d (i + 1) else ⟨0, ((best d i).1 : Int), ((best d i).2 : Int)⟩ :: toks d (i + (best d i).1))
  else []
termination_by d.size - i

theorem toks_len (d : ByteArray) (i : Nat) : (toks d i).length ≤ d.size - i := by
  unfold toks
  split
  · split
    · have := toks_len d (i + 1)
      simp
      omega
    · have := toks_len d (i + (best d i).1)
      simp
      omega
  · simp
termination_by d.size - i

end Go.Proofs.Ytlhgdkaaomdipaa.Tok
namespace Go.Proofs.Ytlhgdkaaomdipaa.Pr
/-- lz.Tokens, of bytes that are not too many. -/
def lz_Tokens.f (a0 : ByteArray) : Option (List S34) := if a0.size ≤ 20000 then some (Tok.toks a0 0) else none
end Go.Proofs.Ytlhgdkaaomdipaa.Pr
