/- Layers 1 and 2: which blocks a call may turn; bits as numbers. No walk in this text. -/
import Derived.Test.YtpldapjcojjicaaWWords
import Derived.Test.YtpldapjcojjicaaWLast
import Derived.Test.YtpldapjcojjicaaWMore
import Derived.Test.YtpldapjcojjicaaProg
import Derived.Laws.BitsLemmas
import Derived.IntWalk
namespace Go.Proofs.Ytpldapjcojjicaa.B
open Go.RowKit Go.Proofs.YtpldapjcojjicaaW.PrintWords
set_option linter.unusedVariables false

/-- The blocks of S may have turned, all others of w's are as they were. -/
structure Fr (S : Nat → Prop) (w w' : World) : Prop where
  os : w'.os = w.os
  tape : w'.tape = w.tape
  output : w'.output = w.output
  size : w.heap.size ≤ w'.heap.size
  block : ∀ k, k < w.heap.size → ¬ S k → w'.heap[k]? = w.heap[k]?
namespace Fr
variable {S T : Nat → Prop} {a b c w w' : World}
theorem refl (S : Nat → Prop) (w : World) : Fr S w w := ⟨rfl, rfl, rfl, Nat.le_refl _, fun _ _ _ => rfl⟩
theorem mono (h : Fr S a b) (hs : ∀ k, k < a.heap.size → S k → T k) : Fr T a b := ⟨h.os, h.tape, h.output, h.size, fun k hk ht => h.block k hk fun hs' => ht (hs k hk hs')⟩
theorem trans (h : Fr S a b) (k : Fr T b c) (hs : ∀ k, k < a.heap.size → T k → S k) : Fr S a c :=
  ⟨k.os.trans h.os, k.tape.trans h.tape, k.output.trans h.output, Nat.le_trans h.size k.size, fun i hi hn => (k.block i (Nat.lt_of_lt_of_le hi h.size) fun ht => hn (hs i hi ht)).trans (h.block i hi hn)⟩
theorem then_ (h : Fr S a b) (k : Fr S b c) : Fr S a c := h.trans k fun _ _ h => h
theorem drew (h : Fr S a b) : Fr S a b.drew := ⟨h.os, h.tape, h.output, h.size, h.block⟩
theorem drewN (h : Fr S a b) (n : Nat) : Fr S a (b.drewN n) := ⟨h.os, h.tape, h.output, h.size, h.block⟩
theorem grown (h : Fr S a b) {row : Option Nat} (hg : b.grownBy c row) (hr : ∀ k, row = some k → k < a.heap.size → S k) : Fr S a c :=
  h.trans (T := fun k => row = some k) ⟨hg.os, hg.tape, hg.output, hg.size, fun k hk hn => hg.block k hk fun e => hn e.symm⟩ fun k hk e => hr k e hk
theorem alloc (h : Fr S a b) (o : Obj) : Fr S a (b.alloc o) := h.grown (World.grownBy_alloc b o none) fun k e => by cases e
theorem set_ (h : Fr S a b) (p : Addr) (v : Value) (hp : p.block < a.heap.size → S p.block) : Fr S a (b.setCell p v) :=
  h.trans (T := fun k => k = p.block) ⟨rfl, rfl, rfl, by simp [World.setCell], fun k hk hn => Below.heap_setCell b p v k hn⟩ fun k hk e => by subst e; exact hp hk
theorem below (h : Fr S a b) (hb : Below b.heap.size b c) : Fr S a c := h.trans (T := fun _ => False) ⟨hb.os, hb.tape, hb.output, hb.size, fun k hk _ => hb.block k hk⟩ fun _ _ e => e.elim
theorem of_below (hb : Below a.heap.size a b) : Fr (fun _ => False) a b := (refl _ a).below hb
theorem of_drawn (h : Drawn0 a b) : Fr (fun _ => False) a b := of_below h.below
theorem drawn (h : Fr S a b) (hd : Drawn0 b c) : Fr S a c := h.below hd.below
theorem to_below (h : Fr S a b) {B : Nat} (hB : ∀ k, k < B → k < a.heap.size → ¬ S k) (hle : B ≤ a.heap.size) : Below B a b := ⟨h.os, h.tape, h.output, h.size, fun k hk => h.block k (by omega) (hB k hk (by omega))⟩
theorem blk (h : Fr S a b) {g : Nat} {o : Obj} (hb : a.heap[g]? = some o) (hg : ¬ S g) : b.heap[g]? = some o := (h.block g (blk_lt hb) hg).trans hb
theorem own (h : Fr S a b) {base : Nat} {e : TypeId} {size n : Nat} {v : Value} {xs : List Value} (ho : a.ownsRow base e size v n xs) (hv : ∀ k, v.ownBlock = some k → ¬ S k) : b.ownsRow base e size v n xs :=
  own_move ho fun k hk => h.block k (own_lt ho k hk) (hv k hk)
end Fr

/-! ### Bits as numbers -/
theorem wraps_i64 (n : Int) (h₀ : 0 ≤ n) (h₁ : n < 2 ^ 63) : IntKind.i64.wrap n = n := by rw [IntKind.wrap_i64]; omega
theorem two_pow_le {i j : Nat} (h : i ≤ j) : (2 : Nat) ^ i ≤ 2 ^ j := Nat.pow_le_pow_right (by decide) h

theorem bits_or_comm (k : IntKind) (x y : Int) : bits .or k x y = bits .or k y x := by
  simp only [bits, BitVec.or_comm]
theorem bits_xor_comm (k : IntKind) (x y : Int) : bits .xor k x y = bits .xor k y x := by
  simp only [bits, BitVec.xor_comm]
theorem bits_and_comm (k : IntKind) (x y : Int) : bits .and k x y = bits .and k y x := by
  simp only [bits, BitVec.and_comm]

/-- The low bits of any int. -/
theorem and_mask (x : Int) (i : Nat) (hi : i ≤ 62) : bits .and .i64 x (2 ^ i - 1) = x % 2 ^ i := by
  have hp : 0 < 2 ^ i := Nat.two_pow_pos i
  have hle : 2 ^ i ≤ 2 ^ 62 := two_pow_le hi
  have hc : ((2 : Int) ^ i - 1) = ((2 ^ i - 1 : Nat) : Int) := by rw [Int.natCast_sub hp]; simp
  have hm : (2 ^ i - 1) % 2 ^ 64 = 2 ^ i - 1 := Nat.mod_eq_of_lt (by omega)
  rw [hc]
  show IntKind.i64.wrap (((BitVec.ofInt 64 x &&& BitVec.ofInt 64 ((2 ^ i - 1 : Nat) : Int)).toNat : Nat) : Int) = _
  rw [BitVec.toNat_and, BitVec.ofInt_natCast, BitVec.toNat_ofNat, BitVec.toNat_ofInt, hm, Nat.and_two_pow_sub_one_eq_mod]
  have h2 : ((((x % ((2 ^ 64 : Nat) : Int)).toNat % 2 ^ i : Nat)) : Int) = x % 2 ^ i := by
    have h3 : 0 ≤ x % ((2 ^ 64 : Nat) : Int) := Int.emod_nonneg _ (by omega)
    rw [Int.natCast_emod, Int.toNat_of_nonneg h3]
    have hd : ((2 : Int) ^ i) ∣ ((2 ^ 64 : Nat) : Int) := by
      refine ⟨2 ^ (64 - i), ?_⟩
      rw [← Int.pow_add]
      rw [show i + (64 - i) = 64 by omega]
      rfl
    rw [show ((2 ^ i : Nat) : Int) = (2 : Int) ^ i by simp]
    exact Int.emod_emod_of_dvd x hd
  rw [h2]
  have h4 : 0 ≤ x % 2 ^ i := Int.emod_nonneg _ (by have : (0 : Int) < 2 ^ i := Int.pow_pos (by decide); omega)
  have h5 : x % 2 ^ i < 2 ^ i := Int.emod_lt_of_pos _ (Int.pow_pos (by decide))
  refine wraps_i64 _ h4 (Int.lt_of_lt_of_le h5 ?_)
  have : ((2 ^ i : Nat) : Int) ≤ ((2 ^ 62 : Nat) : Int) := by exact_mod_cast hle
  have h6 : ((2 ^ i : Nat) : Int) = (2 : Int) ^ i := by simp
  omega

/-- What lies below a place, and what lies from it on, laid together. -/
theorem or_low (a b i : Nat) (ha : a < 2 ^ i) (hab : a + b * 2 ^ i < 2 ^ 62) : bits .or .i64 (a : Int) ((b * 2 ^ i : Nat) : Int) = ((a + b * 2 ^ i : Nat) : Int) := by
  rw [bits_or_comm]
  have h := bits_join .i64 63 (by decide) wraps_i64 i ((b * 2 ^ i : Nat) : Int) (a : Int) (by omega)
    (by rw [show ((2 : Int) ^ i) = ((2 ^ i : Nat) : Int) by simp, ← Int.natCast_emod]; simp) (by omega) (by omega) (by exact_mod_cast ha) (by omega)
  rw [h]
  omega

theorem pow31 {n : Nat} (h : n ≤ 31) : (2 : Nat) ^ n ≤ 2147483648 := two_pow_le h
theorem pow_cast (n : Nat) : ((2 : Int) ^ n) = ((2 ^ n : Nat) : Int) := by simp
theorem pow_pos' (n : Nat) : 0 < (2 : Nat) ^ n := Nat.two_pow_pos n
theorem w64' (x : Int) (h : -9223372036854775808 ≤ x ∧ x ≤ 9223372036854775807) : wrap64 x = x := by unfold wrap64; omega

/-- A byte laid above what is held. -/
theorem rd_or (h b n : Nat) (hb : b < 256) (hn : n ≤ 31) (hh : h < 2 ^ n) : bits .or .i64 (h : Int) (wrap64 (wrap64 (b : Int) * 2 ^ n)) = ((h + b * 2 ^ n : Nat) : Int) := by
  have hp := pow31 hn
  have hm : b * 2 ^ n ≤ 255 * 2147483648 := Nat.mul_le_mul (by omega) hp
  rw [w64' (b : Int) (by omega), pow_cast, ← Int.natCast_mul, w64' _ (by omega)]
  exact or_low h b n hh (by omega)
theorem rd_lt (h b n : Nat) (hb : b < 256) (hh : h < 2 ^ n) : h + b * 2 ^ n < 2 ^ (n + 8) := by
  rw [Nat.pow_add]
  have : b * 2 ^ n ≤ 255 * 2 ^ n := Nat.mul_le_mul_right _ (by omega)
  omega
theorem mask_w (k : Nat) (hk : k ≤ 31) : wrap64 (wrap64 (2 ^ k) - 1) = 2 ^ k - 1 := by
  have hp := pow31 hk
  have h0 := pow_pos' k
  rw [pow_cast]
  generalize (2 : Nat) ^ k = p at hp h0 ⊢
  rw [w64' (p : Int) (by omega), w64' _ (by omega)]
theorem rd_and (h k : Nat) (hk : k ≤ 31) : bits .and .i64 (h : Int) (wrap64 (wrap64 (2 ^ k) - 1)) = ((h % 2 ^ k : Nat) : Int) := by
  rw [mask_w k hk, and_mask _ _ (by omega), pow_cast, Int.natCast_emod]

theorem emod_pow (x : Int) (k : Nat) : x % 2 ^ k = (((x % 2 ^ k).toNat : Nat) : Int) ∧ (x % 2 ^ k).toNat < 2 ^ k := by
  have h0 : (0 : Int) < 2 ^ k := Int.pow_pos (by decide)
  have h1 : 0 ≤ x % 2 ^ k := Int.emod_nonneg _ (by omega)
  have h2 := Int.emod_lt_of_pos x h0
  refine ⟨(Int.toNat_of_nonneg h1).symm, ?_⟩
  have : (((x % 2 ^ k).toNat : Nat) : Int) < ((2 ^ k : Nat) : Int) := by rw [Int.toNat_of_nonneg h1, ← pow_cast]; exact h2
  exact_mod_cast this
/-- The low bits of a number laid above what is held. -/
theorem wr_or (x : Int) (h n k : Nat) (hn : n ≤ 7) (hk : k ≤ 24) (hh : h < 2 ^ n) :
    bits .or .i64 (h : Int) (wrap64 (bits .and .i64 x (wrap64 (wrap64 (2 ^ k) - 1)) * 2 ^ n)) = ((h + (x % 2 ^ k).toNat * 2 ^ n : Nat) : Int) := by
  have e := emod_pow x k
  have hp : (2 : Nat) ^ k ≤ 16777216 := two_pow_le (j := 24) hk
  have hq : (2 : Nat) ^ n ≤ 128 := two_pow_le (j := 7) hn
  have hm : (x % 2 ^ k).toNat * 2 ^ n ≤ 16777216 * 128 := Nat.mul_le_mul (by omega) hq
  rw [mask_w k (by omega), and_mask x k (by omega), e.1, pow_cast n, ← Int.natCast_mul, w64' _ (by omega)]
  exact or_low h _ n hh (by omega)
theorem wr_lt (x : Int) (h n k : Nat) (hh : h < 2 ^ n) : h + (x % 2 ^ k).toNat * 2 ^ n < 2 ^ (n + k) := by
  have e := (emod_pow x k).2
  have h1 : ((x % 2 ^ k).toNat + 1) * 2 ^ n ≤ 2 ^ k * 2 ^ n := Nat.mul_le_mul_right _ e
  rw [Nat.add_mul, Nat.one_mul] at h1
  rw [Nat.pow_add, Nat.mul_comm (2 ^ n)]
  omega

end Go.Proofs.Ytpldapjcojjicaa.B
