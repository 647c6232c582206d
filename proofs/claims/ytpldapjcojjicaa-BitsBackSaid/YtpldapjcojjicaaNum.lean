/- Layer 1 (bits): whole bytes off a reader, against the document. No walk in this text. -/
import Derived.Test.YtpldapjcojjicaaNum0
namespace Go.Proofs.Ytpldapjcojjicaa.B
open Go.RowKit Go.Proofs.YtpldapjcojjicaaW.PrintWords Go.Proofs.YtpldapjcojjicaaW.PrintLast Go.Proofs.YtpldapjcojjicaaW.PrintMore Go.Proofs.Ytpldapjcojjicaa.Pb
set_option linter.unusedVariables false

theorem Rel.whole {S d : ByteArray} {h n a : Nat} (R : Rel S d h n a) (q : Nat) (hq : q ≤ d.size) : Rel S (d.extract q d.size) 0 0 (8 * (S.size - d.size) + 8 * q) := by
  have hd := R.hd
  have hs : (d.extract q d.size).size = d.size - q := by rw [ByteArray.size_extract]; omega
  have hc : d.extract q d.size = S.extract (S.size - (d.extract q d.size).size) S.size := by
    rw [hs]
    conv => lhs; rw [R.cut]
    rw [ByteArray.extract_extract, ByteArray.size_extract]
    congr 1 <;> omega
  refine ⟨Nat.zero_le _, by decide, by omega, hc, by omega, ?_⟩
  rw [hc, hs, Nat.pow_zero, Nat.mul_one, Nat.add_zero, ← num_drop]
  congr 2
  omega
theorem Rel.part {S d : ByteArray} {h n a : Nat} (R : Rel S d h n a) (q : Nat) (hq : q ≤ d.size) : d.extract 0 q = S.extract (S.size - d.size) (S.size - d.size + q) := by
  have hd := R.hd
  conv => lhs; rw [R.cut]
  rw [ByteArray.extract_extract]
  congr 1
  omega
theorem up8 (a n p N : Nat) (hn : n ≤ 7) (h : a + n = 8 * p) (hp : p ≤ N) (hN : N ≤ 140737488351232) : wrap64 ((wrap64 (Int.tdiv (wrap64 ((a : Int) + 7)) 8)) * 8) = ((8 * p : Nat) : Int) ∧ wrap64 (Int.tdiv ((8 * p : Nat) : Int) 8) = (p : Int) := by
  have e := at_div a 7 (by omega)
  have e1 : (a + 7) / 8 = p := by omega
  rw [e1] at e
  have e2 : wrap64 (Int.tdiv (wrap64 ((a : Int) + 7)) 8) = (p : Int) := e
  refine ⟨?_, ?_⟩
  · rw [e2, w64' _ (by omega)]
    omega
  · rw [Int.tdiv_eq_ediv_of_nonneg (Int.natCast_nonneg _)]
    have : ((8 * p : Nat) : Int) / 8 = (p : Int) := by omega
    rw [this, w64' _ (by omega)]
theorem xleft8 (S : ByteArray) (hS : S.size ≤ 140737488351232) (p : Nat) (hp : p ≤ S.size) : vitrineref01_Reader_Left.f S ((8 * p : Nat) : Int) = some (((8 * (S.size - p) : Nat) : Int), S, ((8 * p : Nat) : Int)) := by
  unfold vitrineref01_Reader_Left.f
  rw [w64' (8 * (S.size : Int)) (by omega), w64' _ (by omega)]
  congr 2
  omega
theorem w8mul (q : Nat) (h : q ≤ 140737488351232) : wrap64 (8 * (q : Int)) = ((8 * q : Nat) : Int) := by
  rw [w64' _ (by omega)]
  omega
theorem xbytes_cut (S d : ByteArray) (hS : S.size ≤ 140737488351232) (p q : Nat) (hpq : p + q ≤ S.size) (hx : d.extract 0 q = S.extract p (p + q)) :
    (if 0 ≤ (p : Int) then (if (p : Int) ≤ wrap64 ((p : Int) + (q : Int)) then (if wrap64 ((p : Int) + (q : Int)) ≤ (S.size : Int) then (some (S.extract (p : Int).toNat (wrap64 ((p : Int) + (q : Int))).toNat, (0 : Int), S, wrap64 (((8 * p : Nat) : Int) + wrap64 (8 * (q : Int))))) else none) else none) else none)
    = some (d.extract 0 q, 0, S, ((8 * p + 8 * q : Nat) : Int)) := by
  rw [at_wrap p q (by omega), w8mul q (by omega), at_wrap (8 * p) (8 * q) (by omega), if_pos (Int.natCast_nonneg _), if_pos (by omega), if_pos (by omega), Int.toNat_natCast, Int.toNat_natCast, hx]
/-- Bytes. -/
theorem xbytes (S d : ByteArray) (hS : S.size ≤ 140737488351232) (h n a : Nat) (R : Rel S d h n a) (k : Int) :
    ∃ a', vitrineref01_Reader_Bytes.f S (a : Int) k = some ((rbytesF d h n k).1, (rbytesF d h n k).2.1, S, ((a' : Nat) : Int)) ∧ Rel S (rbytesF d h n k).2.2.1 (rbytesF d h n k).2.2.2.1 (rbytesF d h n k).2.2.2.2 a' := by
  unfold vitrineref01_Reader_Bytes.f rbytesF
  by_cases h0 : k < 0
  · rw [if_pos h0, if_pos h0]
    exact ⟨a, rfl, R⟩
  · rw [if_neg h0, if_neg h0]
    obtain ⟨q, rfl⟩ : ∃ q : Nat, k = q := ⟨k.toNat, by omega⟩
    have hd := R.hd
    have hpos := R.pos
    have hn := R.hn
    obtain ⟨u1, u2⟩ := up8 a n (S.size - d.size) S.size hn (by omega) (by omega) hS
    have u3 := up8 (8 * d.size) 0 d.size S.size (by omega) (by omega) hd hS
    rw [u1, xleft8 S hS _ (by omega)]
    have e3 : S.size - (S.size - d.size) = d.size := by omega
    rw [e3, Option.bind_some]
    dsimp only
    rw [u3.2]
    by_cases h1 : (d.size : Int) < (q : Int)
    · rw [if_pos h1, if_pos h1]
      have W := R.whole 0 (Nat.zero_le _)
      have e0 : d.extract 0 d.size = d := by simp
      rw [Nat.mul_zero, Nat.add_zero, e0] at W
      exact ⟨_, rfl, W⟩
    · rw [if_neg h1, if_neg h1, u2]
      exact ⟨8 * (S.size - d.size) + 8 * q, xbytes_cut S d hS (S.size - d.size) q (by omega) (R.part q (by omega)), R.whole q (by omega)⟩
end Go.Proofs.Ytpldapjcojjicaa.B
