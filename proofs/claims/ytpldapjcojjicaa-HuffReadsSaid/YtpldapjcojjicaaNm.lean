/- Layer 1 (bits): bytes as one number; what the reader tells is what the document's reader tells. No walk in this text. -/
import Derived.Test.YtpldapjcojjicaaRx
import Derived.Test.YtpldapjcojjicaaRd2
namespace Go.Proofs.Ytpldapjcojjicaa.B
open Go.RowKit Go.Proofs.YtpldapjcojjicaaW.PrintWords Go.Proofs.YtpldapjcojjicaaW.PrintLast Go.Proofs.YtpldapjcojjicaaW.PrintMore Go.Proofs.Ytpldapjcojjicaa.Pb
set_option linter.unusedVariables false

/-- Bytes as one number, the first lowest. -/
def numL : List Nat → Nat
  | [] => 0
  | b :: r => b + 256 * numL r
def byt (d : ByteArray) : List Nat := d.data.toList.map (·.toNat)
def num (d : ByteArray) : Nat := numL (byt d)
theorem byt_length (d : ByteArray) : (byt d).length = d.size := by
  unfold byt
  rw [List.length_map, Array.length_toList]
  rfl
theorem byt_lt (d : ByteArray) : ∀ x ∈ byt d, x < 256 := by
  intro x hx
  obtain ⟨y, _, rfl⟩ := List.mem_map.1 hx
  exact y.toNat_lt
theorem byt_drop (d : ByteArray) (p : Nat) : byt (d.extract p d.size) = (byt d).drop p := by
  unfold byt
  rw [ByteArray.data_extract, Array.toList_extract, ← List.map_drop]
  congr 1
  unfold List.extract
  rw [List.take_of_length_le]
  rw [List.length_drop, Array.length_toList]
  exact Nat.le_refl _
theorem bt_byt (d : ByteArray) (q : Nat) : bt d (q : Int) = (((byt d).getD q 0 : Nat) : Int) := by
  unfold bt
  rw [Int.toNat_natCast]
  by_cases h : q < d.size
  · rw [dif_pos h]
    have hl : q < (byt d).length := by rw [byt_length]; exact h
    rw [List.getD_eq_getElem?_getD, List.getElem?_eq_getElem hl]
    simp [byt]
    rfl
  · rw [dif_neg h]
    have hl : ¬ q < (byt d).length := by rw [byt_length]; exact h
    rw [List.getD_eq_getElem?_getD, List.getElem?_eq_none (by omega)]
    rfl
theorem num_cons (d : ByteArray) : num d = b0 d + 256 * num (d.extract 1 d.size) := by
  unfold num
  rw [byt_drop]
  have hb : b0 d = (byt d).getD 0 0 := by
    have := bt_byt d 0
    unfold b0
    rw [show ((0 : Int)) = ((0 : Nat) : Int) from rfl, this, Int.toNat_natCast]
  rw [hb]
  cases byt d with
  | nil => rfl
  | cons b r => rfl
theorem numL_drop : ∀ (p : Nat) (l : List Nat), (∀ x ∈ l, x < 256) → numL l / 2 ^ (8 * p) = numL (l.drop p)
  | 0, l, _ => by simp
  | p + 1, [], _ => by simp [numL]
  | p + 1, b :: r, h => by
    have hb := h b (by simp)
    rw [List.drop_succ_cons, ← numL_drop p r (fun x hx => h x (by simp [hx]))]
    rw [show 8 * (p + 1) = 8 + 8 * p by omega, Nat.pow_add, ← Nat.div_div_eq_div_mul]
    congr 1
    show (b + 256 * numL r) / 2 ^ 8 = numL r
    omega
theorem num_drop (d : ByteArray) (p : Nat) : num d / 2 ^ (8 * p) = num (d.extract p d.size) := by
  unfold num
  rw [byt_drop, numL_drop p _ (byt_lt d)]
/-- A bit of the number is a bit of a byte. -/
theorem num_bit (d : ByteArray) (q r : Nat) (hr : r < 8) : num d / 2 ^ (8 * q + r) % 2 = (byt d).getD q 0 / 2 ^ r % 2 := by
  rw [Nat.pow_add, ← Nat.div_div_eq_div_mul]
  unfold num
  rw [numL_drop q _ (byt_lt d)]
  have hg : (byt d).getD q 0 = ((byt d).drop q).getD 0 0 := by simp [List.getD_eq_getElem?_getD]
  rw [hg]
  cases (byt d).drop q with
  | nil => simp [numL]
  | cons b t =>
    show (b + 256 * numL t) / 2 ^ r % 2 = b / 2 ^ r % 2
    obtain ⟨s, rfl⟩ : ∃ s, s = 7 - r := ⟨_, rfl⟩
    have e : 256 * numL t = 2 ^ r * (2 ^ (7 - r) * numL t * 2) := by
      have : 256 = 2 ^ r * 2 ^ (7 - r) * 2 := by
        rw [← Nat.pow_add, show r + (7 - r) = 7 by omega]
      rw [this]
      simp only [Nat.mul_assoc, Nat.mul_comm, Nat.mul_left_comm]
    rw [e, Nat.add_mul_div_left _ _ (Nat.two_pow_pos r)]
    omega

theorem size_tail (d : ByteArray) (h : 0 < d.size) : (d.extract 1 d.size).size + 1 = d.size := by
  rw [ByteArray.size_extract]
  omega
/-- Filling up keeps the number. -/
theorem rfill_num (k : Nat) : ∀ (m : Nat) (d : ByteArray) (h n : Nat), k ≤ n + m → k ≤ 8 * d.size + n →
    num (rfill d h n k).1 * 2 ^ (rfill d h n k).2.2 + (rfill d h n k).2.1 = num d * 2 ^ n + h ∧ (8 * (rfill d h n k).1.size + (rfill d h n k).2.2 = 8 * d.size + n) ∧ k ≤ (rfill d h n k).2.2 ∧ ∃ j, j ≤ d.size ∧ (rfill d h n k).1 = d.extract j d.size := by
  intro m
  induction m with
  | zero =>
    intro d h n hm hk
    rw [rfill_end (by omega)]
    exact ⟨rfl, rfl, by simpa using hm, 0, Nat.zero_le _, by simp⟩
  | succ m ih =>
    intro d h n hm hk
    by_cases c : n < k
    · rw [← rfill_go c]
      have hs := size_tail d (by omega)
      obtain ⟨h1, h2, h3, j, h4, h5⟩ := ih (d.extract 1 d.size) (h + b0 d * 2 ^ n) (n + 8) (by omega) (by omega)
      refine ⟨?_, by omega, h3, j + 1, by omega, ?_⟩
      · rw [h1, num_cons d, Nat.pow_add]
        rw [Nat.add_mul, show (2 : Nat) ^ 8 = 256 from rfl]
        rw [show num (d.extract 1 d.size) * (2 ^ n * 256) = 256 * num (d.extract 1 d.size) * 2 ^ n by simp only [Nat.mul_assoc, Nat.mul_comm, Nat.mul_left_comm]]
        omega
      · rw [h5, ByteArray.extract_extract]
        congr 1 <;> omega
    · rw [rfill_end c]
      exact ⟨rfl, rfl, Nat.le_of_not_lt c, 0, Nat.zero_le _, by simp⟩

/-- The reader and the document's reader stand at one bit. -/
structure Rel (S d : ByteArray) (h n at_ : Nat) : Prop where
  hn : n ≤ 7
  hh : h < 2 ^ n
  hd : d.size ≤ S.size
  cut : d = S.extract (S.size - d.size) S.size
  pos : at_ + 8 * d.size + n = 8 * S.size
  val : num S / 2 ^ at_ = num d * 2 ^ n + h
theorem Rel.start (S : ByteArray) : Rel S S 0 0 0 := ⟨Nat.zero_le _, by decide, Nat.le_refl _, by simp, by omega, by simp⟩

theorem u8_and1 (x : Nat) (h : x < 256) : Go.bits .and .u8 (x : Int) 1 = ((x % 2 : Nat) : Int) := by
  have : ∀ y : Fin 256, Go.bits .and .u8 ((y.val : Nat) : Int) 1 = ((y.val % 2 : Nat) : Int) := by decide +kernel
  exact this ⟨x, h⟩
theorem at_wrap (a b : Nat) (h : a + b ≤ 1125899906842624) : wrap64 ((a : Int) + (b : Int)) = ((a + b : Nat) : Int) := by
  rw [w64' _ (by omega)]
  omega
theorem at_div (a b : Nat) (h : a + b ≤ 1125899906842624) : wrap64 (Int.tdiv (wrap64 ((a : Int) + (b : Int))) 8) = (((a + b) / 8 : Nat) : Int) := by
  rw [at_wrap a b h]
  have : Int.tdiv ((a + b : Nat) : Int) 8 = (((a + b) / 8 : Nat) : Int) := by
    rw [Int.tdiv_eq_ediv_of_nonneg (Int.natCast_nonneg _)]
    omega
  rw [this, w64' _ (by omega)]
theorem at_mod (a b : Nat) (h : a + b ≤ 1125899906842624) : Int.tmod (wrap64 ((a : Int) + (b : Int))) 8 = (((a + b) % 8 : Nat) : Int) := by
  rw [at_wrap a b h, Int.tmod_eq_emod_of_nonneg (Int.natCast_nonneg _)]
  omega
theorem bit_shl (b i : Nat) (hb : b < 2) (hi : i < 24) : shl .i64 (wrap64 (b : Int)) (i : Int) = ((b * 2 ^ i : Nat) : Int) := by
  unfold shl
  rw [w64' _ (by omega), Int.toNat_natCast, Nat.min_eq_left (show i ≤ IntKind.i64.bits from Nat.le_trans (Nat.le_of_lt hi) (by decide)), pow_cast, ← Int.natCast_mul, i64_w]
  have : b * 2 ^ i ≤ 1 * 2 ^ 24 := Nat.mul_le_mul (by omega) (two_pow_le (by omega))
  exact w64' _ (by omega)
theorem byte_shr (x r : Nat) (hr : r < 8) : shr .u8 (x : Int) (r : Int) = ((x / 2 ^ r : Nat) : Int) := by
  unfold shr
  rw [Int.toNat_natCast, Nat.min_eq_left (show r ≤ IntKind.u8.bits from Nat.le_trans (Nat.le_of_lt hr) (by decide)), pow_cast, ← Int.natCast_ediv]

theorem xbits_l0 (S : ByteArray) (hS : S.size ≤ 140737488351232) (a k : Nat) (hk : k ≤ 24) (hak : a + k ≤ 8 * S.size) : ∀ (m i : Nat), i + m = k →
    Ev (fun f => vitrineref01_Reader_Bits.l0 f (k : Int) ((num S / 2 ^ a % 2 ^ i : Nat) : Int) (i : Int) S (a : Int)) (((num S / 2 ^ a % 2 ^ k : Nat) : Int), 0, S, ((a + k : Nat) : Int)) := by
  intro m
  induction m with
  | zero =>
    intro i hi
    obtain rfl : i = k := hi
    refine Ev.step (fun f => ?_) (Ev.now _)
    simp only [vitrineref01_Reader_Bits.l0]
    rw [if_neg (Int.lt_irrefl _), at_wrap a i (by omega)]
  | succ m ih =>
    intro i hi
    refine Ev.step (fun f => ?_) (ih (i + 1) (by omega))
    simp only [vitrineref01_Reader_Bits.l0]
    have hai : a + i ≤ 1125899906842624 := by omega
    rw [at_div a i hai, at_mod a i hai]
    have hq : (a + i) / 8 < S.size := by omega
    have hr : (a + i) % 8 < 8 := Nat.mod_lt _ (by decide)
    have hi1 : wrap64 ((i : Int) + 1) = ((i + 1 : Nat) : Int) := at_wrap i 1 (by omega)
    rw [if_pos (by omega), if_pos (Int.natCast_nonneg _), if_pos (by exact_mod_cast hq), if_pos (Int.natCast_nonneg _), if_pos (Int.natCast_nonneg _), hi1, bt_byt, byte_shr _ _ hr]
    have hx : (byt S).getD ((a + i) / 8) 0 < 256 := by
      rw [List.getD_eq_getElem?_getD, List.getElem?_eq_getElem (by rw [byt_length]; exact hq)]
      exact byt_lt S _ (List.getElem_mem _)
    have hx2 : (byt S).getD ((a + i) / 8) 0 / 2 ^ ((a + i) % 8) < 256 := Nat.lt_of_le_of_lt (Nat.div_le_self _ _) hx
    rw [u8_and1 _ hx2, ← num_bit S _ _ hr, Nat.div_add_mod]
    have e1 : num S / 2 ^ (a + i) = num S / 2 ^ a / 2 ^ i := by rw [Nat.pow_add, Nat.div_div_eq_div_mul]
    rw [e1]
    generalize num S / 2 ^ a = X
    have hb : X / 2 ^ i % 2 < 2 := Nat.mod_lt _ (by decide)
    have hlt : X % 2 ^ i < 2 ^ i := Nat.mod_lt _ (Nat.two_pow_pos i)
    have hp : (2 : Nat) ^ i ≤ 2 ^ 24 := two_pow_le (by omega)
    have hm : X / 2 ^ i % 2 * 2 ^ i ≤ 1 * 2 ^ 24 := Nat.mul_le_mul (by omega) hp
    rw [bit_shl _ i hb (by omega), or_low _ _ i hlt (by omega)]
    have e2 : X % 2 ^ (i + 1) = X % 2 ^ i + X / 2 ^ i % 2 * 2 ^ i := by rw [Nat.mod_pow_succ, Nat.mul_comm]
    rw [e2]

theorem xleft (S d : ByteArray) (hS : S.size ≤ 140737488351232) (h n a : Nat) (R : Rel S d h n a) : vitrineref01_Reader_Left.f S (a : Int) = some (((8 * d.size + n : Nat) : Int), S, (a : Int)) := by
  unfold vitrineref01_Reader_Left.f
  have hp := R.pos
  rw [w64' (8 * (S.size : Int)) (by omega), w64' _ (by omega)]
  congr 2
  omega
/-- Bits. -/
theorem xbits (S d : ByteArray) (hS : S.size ≤ 140737488351232) (h n a : Nat) (R : Rel S d h n a) (k : Int) :
    ∃ a', Ev (fun f => vitrineref01_Reader_Bits.f f S (a : Int) k) ((rbitsF d h n k).1, (rbitsF d h n k).2.1, S, ((a' : Nat) : Int)) ∧ Rel S (rbitsF d h n k).2.2.1 (rbitsF d h n k).2.2.2.1 (rbitsF d h n k).2.2.2.2 a' := by
  by_cases h0 : k < 0 ∨ 24 < k
  · refine ⟨a, ?_, ?_⟩
    · unfold rbitsF
      rw [if_pos h0]
      refine Ev.congr (f := fun f => vitrineref01_Reader_Bits.j0 f k true S (a : Int)) (fun f => ?_) (Ev.step (fun f => ?_) (Ev.now _))
      · unfold vitrineref01_Reader_Bits.f
        by_cases h1 : k < 0
        · rw [if_pos h1]
        · rw [if_neg h1, decide_eq_true (show k > 24 by omega)]
      · simp only [vitrineref01_Reader_Bits.j0]
        rw [if_pos trivial]
    · unfold rbitsF
      rw [if_pos h0]
      exact R
  · obtain ⟨q, rfl⟩ : ∃ q : Nat, k = q := ⟨k.toNat, by omega⟩
    have hq : q ≤ 24 := by omega
    have hf : ∀ f, vitrineref01_Reader_Bits.f f S (a : Int) (q : Int) = vitrineref01_Reader_Bits.j0 f (q : Int) false S (a : Int) := by
      intro f
      unfold vitrineref01_Reader_Bits.f
      rw [if_neg (by omega), decide_eq_false (by omega)]
    unfold rbitsF
    rw [if_neg h0]
    by_cases h2 : ((8 * d.size + n : Nat) : Int) < (q : Int)
    · rw [if_pos h2]
      refine ⟨a, Ev.congr hf (Ev.step (fun f => ?_) (Ev.now _)), R⟩
      simp only [vitrineref01_Reader_Bits.j0]
      rw [if_neg (by simp), xleft S d hS h n a R]
      show (if (q : Int) > ((8 * d.size + n : Nat) : Int) then _ else _) = _
      rw [if_pos h2]
    · rw [if_neg h2, Int.toNat_natCast]
      have hp := R.pos
      obtain ⟨r1, r2, r3, j, r4, r5⟩ := rfill_num q q d h n (by omega) (by omega)
      have hlt := rfill_ok q hq d h n R.hh (by have := R.hn; omega) (by have := R.hn; omega) (by omega)
      generalize hF : rfill d h n q = F at *
      obtain ⟨d', h', n'⟩ := F
      simp only at r1 r2 r3 r4 r5 hlt ⊢
      have hp0 := Nat.two_pow_pos q
      have e0 : (2 : Nat) ^ n' = 2 ^ (n' - q) * 2 ^ q := by rw [← Nat.pow_add]; congr 1; omega
      have hX : num S / 2 ^ a = num d' * 2 ^ (n' - q) * 2 ^ q + h' := by rw [R.val, ← r1, e0, Nat.mul_assoc]
      have e1 : num S / 2 ^ a % 2 ^ q = h' % 2 ^ q := by rw [hX, Nat.mul_comm, Nat.mul_add_mod]
      have e2 : num S / 2 ^ (a + q) = num d' * 2 ^ (n' - q) + h' / 2 ^ q := by
        rw [Nat.pow_add, ← Nat.div_div_eq_div_mul, hX, Nat.mul_comm _ (2 ^ q), Nat.mul_add_div hp0]
      refine ⟨a + q, Ev.congr hf (Ev.step (fun f => ?_) (f := fun f => vitrineref01_Reader_Bits.l0 f (q : Int) ((num S / 2 ^ a % 2 ^ 0 : Nat) : Int) ((0 : Nat) : Int) S (a : Int)) ?_), ?_⟩
      · simp only [vitrineref01_Reader_Bits.j0]
        rw [if_neg (by simp), xleft S d hS h n a R]
        show (if (q : Int) > ((8 * d.size + n : Nat) : Int) then _ else _) = _
        rw [if_neg h2, Nat.pow_zero, Nat.mod_one]
        rfl
      · rw [← e1]
        exact xbits_l0 S hS a q hq (by omega) q 0 (by omega)
      · refine ⟨by have := hlt.2.2.1; clear hX e1 e2; omega, ?_, by have := R.hd; clear hX e1 e2; omega, ?_, by clear hX e1 e2; omega, e2⟩
        · rw [Nat.div_lt_iff_lt_mul hp0, ← e0]
          exact hlt.1
        · have hs : d'.size = d.size - j := by rw [r5, ByteArray.size_extract]; omega
          have hd := R.hd
          rw [r5]
          conv => lhs; rw [R.cut]
          rw [ByteArray.extract_extract, ByteArray.size_extract, ByteArray.size_extract]
          congr 1 <;> omega
end Go.Proofs.Ytpldapjcojjicaa.B
