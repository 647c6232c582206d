/- Layer 1 (bits): bits laid one by one lie as bits laid at once. No walk in this text. -/
import Derived.Test.YtpldapjcojjicaaWr2
namespace Go.Proofs.Ytpldapjcojjicaa.B
open Go.RowKit Go.Proofs.YtpldapjcojjicaaW.PrintWords Go.Proofs.YtpldapjcojjicaaW.PrintLast Go.Proofs.YtpldapjcojjicaaW.PrintMore
set_option linter.unusedVariables false

theorem pow_split (m : Nat) (h : 8 ≤ m) : (2 : Nat) ^ m = 2 ^ (m - 8) * 256 := by
  rw [show (256 : Nat) = 2 ^ 8 from rfl, ← Nat.pow_add]
  congr 1
  omega
theorem wflush_ok : ∀ (f m : Nat) (xs : List Int) (H : Nat), m ≤ f → H < 2 ^ m →
    (wflush xs H m).2.1 < 2 ^ (wflush xs H m).2.2 ∧ (wflush xs H m).2.2 ≤ 7 ∧ 8 * (wflush xs H m).1.length + (wflush xs H m).2.2 = 8 * xs.length + m := by
  intro f
  induction f with
  | zero =>
    intro m xs H hm hH
    rw [wflush_end (by omega)]
    exact ⟨hH, by show m ≤ 7; omega, rfl⟩
  | succ f ih =>
    intro m xs H hm hH
    by_cases c : 8 ≤ m
    · rw [← wflush_go c]
      have hH2 : H / 256 < 2 ^ (m - 8) := by
        rw [Nat.div_lt_iff_lt_mul (by decide), ← pow_split m c]
        exact hH
      obtain ⟨h1, h2, h3⟩ := ih (m - 8) (xs ++ [((H % 256 : Nat) : Int)]) (H / 256) (by omega) hH2
      refine ⟨h1, h2, ?_⟩
      rw [h3, List.length_append, List.length_singleton]
      omega
    · rw [wflush_end c]
      exact ⟨hH, by show m ≤ 7; omega, rfl⟩
/-- One more bit. -/
theorem wflush_one : ∀ (f m : Nat) (xs : List Int) (H b : Nat), m ≤ f → H < 2 ^ m →
    wflush (wflush xs H m).1 ((wflush xs H m).2.1 + b * 2 ^ (wflush xs H m).2.2) ((wflush xs H m).2.2 + 1) = wflush xs (H + b * 2 ^ m) (m + 1) := by
  intro f
  induction f with
  | zero =>
    intro m xs H b hm hH
    rw [wflush_end (show ¬ 8 ≤ m by omega)]
  | succ f ih =>
    intro m xs H b hm hH
    by_cases c : 8 ≤ m
    · have hH2 : H / 256 < 2 ^ (m - 8) := by
        rw [Nat.div_lt_iff_lt_mul (by decide), ← pow_split m c]
        exact hH
      rw [← wflush_go c, ih (m - 8) _ _ b (by omega) hH2]
      conv => rhs; rw [← wflush_go (show 8 ≤ m + 1 by omega)]
      have e1 : (H + b * 2 ^ m) % 256 = H % 256 := by
        rw [pow_split m c, ← Nat.mul_assoc]
        omega
      have e2 : (H + b * 2 ^ m) / 256 = H / 256 + b * 2 ^ (m - 8) := by
        rw [pow_split m c, ← Nat.mul_assoc]
        omega
      rw [e1, e2, show m + 1 - 8 = m - 8 + 1 by omega]
    · rw [wflush_end c]
/-- The next bit of a number. -/
theorem bit_next (x : Int) (i : Nat) : (x % 2 ^ (i + 1)).toNat = (x % 2 ^ i).toNat + (x / 2 ^ i % 2).toNat * 2 ^ i := by
  have hp : (0 : Int) < 2 ^ i := Int.pow_pos (by decide)
  have h0 := Int.emod_nonneg x (Int.ne_of_gt hp)
  have h1 := Int.emod_lt_of_pos x hp
  have h2 := Int.mul_ediv_add_emod x (2 ^ i)
  generalize hr : x % 2 ^ i = r at *
  generalize hq : x / 2 ^ i = q at *
  have h3 : 0 ≤ q % 2 := by omega
  have h4 : q % 2 < 2 := by omega
  have h5 : x = r + (q % 2) * 2 ^ i + 2 ^ (i + 1) * (q / 2) := by
    have : q = 2 * (q / 2) + q % 2 := by omega
    rw [← h2, Int.pow_succ]
    conv => lhs; rw [this]
    rw [Int.mul_add, Int.mul_comm (2 ^ i) (q % 2), ← Int.mul_assoc]
    omega
  have hb : (q % 2) * 2 ^ i ≤ 1 * 2 ^ i := Int.mul_le_mul_of_nonneg_right (by omega) (Int.le_of_lt hp)
  have hb0 : 0 ≤ (q % 2) * 2 ^ i := Int.mul_nonneg h3 (Int.le_of_lt hp)
  have h6 : x % 2 ^ (i + 1) = r + (q % 2) * 2 ^ i := by
    rw [h5, Int.add_mul_emod_self_left]
    refine Int.emod_eq_of_lt (by omega) ?_
    rw [Int.pow_succ]
    omega
  rw [h6]
  have e7 : (((q % 2).toNat * 2 ^ i : Nat) : Int) = (q % 2) * 2 ^ i := by
    rw [Int.natCast_mul, Int.toNat_of_nonneg h3, ← pow_cast]
  omega
/-- What is laid when i bits of x are laid. -/
def wAt (ys : List Int) (h n : Nat) (x : Int) (i : Nat) : List Int × Nat × Nat := wflush ys (h + (x % 2 ^ i).toNat * 2 ^ n) (n + i)
theorem wAt_zero (ys : List Int) (h n : Nat) (x : Int) (hn : n ≤ 7) : wAt ys h n x 0 = (ys, h, n) := by
  unfold wAt
  rw [Int.pow_zero, Int.emod_one, wflush_end (by omega)]
  simp
theorem wAt_next (ys : List Int) (h n : Nat) (x : Int) (i : Nat) (hh : h < 2 ^ n) :
    wflush (wAt ys h n x i).1 ((wAt ys h n x i).2.1 + (x / 2 ^ i % 2).toNat * 2 ^ (wAt ys h n x i).2.2) ((wAt ys h n x i).2.2 + 1) = wAt ys h n x (i + 1) := by
  unfold wAt
  rw [wflush_one (n + i) (n + i) ys _ _ (Nat.le_refl _) (wr_lt x h n i hh), bit_next, Nat.add_mul, Nat.mul_assoc, ← Nat.pow_add, Nat.add_comm i n, Nat.add_assoc, Nat.add_assoc]
theorem wAt_ok (ys : List Int) (h n : Nat) (x : Int) (i : Nat) (hh : h < 2 ^ n) :
    (wAt ys h n x i).2.1 < 2 ^ (wAt ys h n x i).2.2 ∧ (wAt ys h n x i).2.2 ≤ 7 ∧ 8 * (wAt ys h n x i).1.length + (wAt ys h n x i).2.2 = 8 * ys.length + (n + i) :=
  wflush_ok (n + i) (n + i) ys _ (Nat.le_refl _) (wr_lt x h n i hh)
/-- The byte that is being filled, filled by one bit. -/
theorem pad_next (ys : List Int) (h n b : Nat) (hn : n ≤ 7) (hh : h < 2 ^ n) (hb : b < 2) :
    wpadF (wflush ys (h + b * 2 ^ n) (n + 1)).1 (wflush ys (h + b * 2 ^ n) (n + 1)).2.1 (wflush ys (h + b * 2 ^ n) (n + 1)).2.2 = ys ++ [((h + b * 2 ^ n : Nat) : Int)] := by
  have hp : (2 : Nat) ^ n ≤ 2 ^ 7 := two_pow_le hn
  have hm : b * 2 ^ n ≤ 1 * 2 ^ n := Nat.mul_le_mul_right _ (by omega)
  by_cases h7 : n = 7
  · subst h7
    rw [← wflush_go (by decide), wflush_end (by decide)]
    unfold wpadF
    rw [if_pos rfl, Nat.mod_eq_of_lt (by omega)]
  · rw [wflush_end (by omega)]
    exact if_neg (Nat.succ_ne_zero n)
theorem u8_wrap (x : Int) : IntKind.u8.wrap x = x % 256 := by
  unfold IntKind.wrap
  rfl
theorem u8_or (h b n : Nat) (hn : n ≤ 7) (hh : h < 2 ^ n) (hb : b < 2) : Go.bits .or .u8 (h : Int) (shl .u8 (b : Int) (n : Int)) = ((h + b * 2 ^ n : Nat) : Int) := by
  have hp : (2 : Nat) ^ n ≤ 2 ^ 7 := two_pow_le hn
  have hm : b * 2 ^ n ≤ 1 * 2 ^ n := Nat.mul_le_mul_right _ (by omega)
  have e : shl .u8 (b : Int) (n : Int) = ((b * 2 ^ n : Nat) : Int) := by
    unfold shl
    rw [Int.toNat_natCast, Nat.min_eq_left (show n ≤ IntKind.u8.bits from Nat.le_trans hn (by decide)), pow_cast, ← Int.natCast_mul, u8_wrap]
    omega
  rw [e, bits_or_comm]
  have h := bits_join .u8 8 (by decide) (fun m h0 h1 => by rw [u8_wrap]; omega) n ((b * 2 ^ n : Nat) : Int) (h : Int) (by omega)
    (by rw [show ((2 : Int) ^ n) = ((2 ^ n : Nat) : Int) by simp, ← Int.natCast_emod]; simp) (by omega) (by omega) (by rw [pow_cast]; exact_mod_cast hh) (by omega)
  rw [h]
  omega
theorem x_bit (x : Int) (i : Nat) (hi : i < 24) : Go.bits .and .i64 (shr .i64 x (i : Int)) 1 = (((x / 2 ^ i % 2).toNat : Nat) : Int) ∧ (x / 2 ^ i % 2).toNat < 2 := by
  have h := and_mask (x / 2 ^ i) 1 (by decide)
  have e : shr .i64 x (i : Int) = x / 2 ^ i := by
    unfold shr
    rw [Int.toNat_natCast, Nat.min_eq_left (show i ≤ IntKind.i64.bits from Nat.le_trans (Nat.le_of_lt hi) (by decide))]
  rw [e]
  have h2 : Go.bits .and .i64 (x / 2 ^ i) 1 = x / 2 ^ i % 2 := h
  rw [h2]
  omega
end Go.Proofs.Ytpldapjcojjicaa.B
