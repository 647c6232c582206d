/- Layer 1 (bits): the cyclic sum tells a byte that is changed. No walk in this text. -/
import Derived.Test.YtpldapjcojjicaaPb2
import Derived.Test.YtpldapjcojjicaaNum0
namespace Go.Proofs.Ytpldapjcojjicaa.B
open Go.RowKit Go.Proofs.YtpldapjcojjicaaW.PrintWords Go.Proofs.YtpldapjcojjicaaW.PrintLast Go.Proofs.YtpldapjcojjicaaW.PrintMore Go.Proofs.Ytpldapjcojjicaa.Pb
set_option linter.unusedVariables false

theorem xor_nat (a b : Nat) (ha : a < 2 ^ 62) (hb : b < 2 ^ 62) : Go.bits .xor .i64 (a : Int) (b : Int) = ((a ^^^ b : Nat) : Int) := by
  have hx : a ^^^ b < 2 ^ 62 := Nat.xor_lt_two_pow ha hb
  show IntKind.i64.wrap (((BitVec.ofInt 64 (a : Int) ^^^ BitVec.ofInt 64 (b : Int)).toNat : Nat) : Int) = _
  rw [BitVec.toNat_xor, BitVec.ofInt_natCast, BitVec.ofInt_natCast, BitVec.toNat_ofNat, BitVec.toNat_ofNat, Nat.mod_eq_of_lt (by omega), Nat.mod_eq_of_lt (by omega)]
  exact wraps_i64 _ (by omega) (by omega)
theorem xor_u8 (a b : Nat) (ha : a < 2 ^ 8) (hb : b < 2 ^ 8) : Go.bits .xor .u8 (a : Int) (b : Int) = ((a ^^^ b : Nat) : Int) := by
  have hx : a ^^^ b < 2 ^ 8 := Nat.xor_lt_two_pow ha hb
  show IntKind.u8.wrap (((BitVec.ofInt 8 (a : Int) ^^^ BitVec.ofInt 8 (b : Int)).toNat : Nat) : Int) = _
  rw [BitVec.toNat_xor, BitVec.ofInt_natCast, BitVec.ofInt_natCast, BitVec.toNat_ofNat, BitVec.toNat_ofNat, Nat.mod_eq_of_lt (by omega), Nat.mod_eq_of_lt (by omega)]
  show ((a ^^^ b : Nat) : Int) % 256 = _
  omega

/-- One bit of the sum. -/
def crcB (c : Nat) : Nat := c / 2 ^^^ 3988292384 * (c % 2)
theorem crcB_lt {c : Nat} (h : c < 2 ^ 32) : crcB c < 2 ^ 32 := by
  unfold crcB
  refine Nat.xor_lt_two_pow (by omega) ?_
  have : 3988292384 * (c % 2) ≤ 3988292384 * 1 := Nat.mul_le_mul_left _ (by omega)
  omega
theorem crcB_bit {c : Nat} (h : c < 2 ^ 32) : (crcB c).testBit 31 = decide (c % 2 = 1) := by
  unfold crcB
  have h1 : (c / 2).testBit 31 = false := Nat.testBit_lt_two_pow (by omega)
  rw [Nat.testBit_xor, h1]
  have h2 : c % 2 = 0 ∨ c % 2 = 1 := by omega
  rcases h2 with h2 | h2
  · rw [h2]; decide
  · rw [h2]; decide
theorem crcB_inj {a b : Nat} (ha : a < 2 ^ 32) (hb : b < 2 ^ 32) (h : crcB a = crcB b) : a = b := by
  have hp : decide (a % 2 = 1) = decide (b % 2 = 1) := by rw [← crcB_bit ha, ← crcB_bit hb, h]
  have hm : a % 2 = b % 2 := by
    have : (a % 2 = 1) ↔ (b % 2 = 1) := by simpa using hp
    omega
  unfold crcB at h
  rw [hm] at h
  have hd : a / 2 = b / 2 := by
    have := congrArg (· ^^^ 3988292384 * (b % 2)) h
    simpa [Nat.xor_assoc] using this
  omega
/-- So many bits of the sum. -/
def crcN : Nat → Nat → Nat
  | 0, c => c
  | k + 1, c => crcN k (crcB c)
theorem crcN_lt : ∀ (k : Nat) {c : Nat}, c < 2 ^ 32 → crcN k c < 2 ^ 32
  | 0, _, h => h
  | k + 1, _, h => crcN_lt k (crcB_lt h)
theorem crcN_inj : ∀ (k : Nat) {a b : Nat}, a < 2 ^ 32 → b < 2 ^ 32 → crcN k a = crcN k b → a = b
  | 0, _, _, _, _, h => h
  | k + 1, _, _, ha, hb, h => crcB_inj ha hb (crcN_inj k (crcB_lt ha) (crcB_lt hb) h)
/-- All bytes. -/
def crcL : List Nat → Nat → Nat
  | [], c => c
  | b :: r, c => crcL r (crcN 8 (c ^^^ b))
theorem crc_in {c b : Nat} (hc : c < 2 ^ 32) (hb : b < 256) : c ^^^ b < 2 ^ 32 := Nat.xor_lt_two_pow hc (by omega)
theorem crcL_lt : ∀ (l : List Nat) {c : Nat}, (∀ x ∈ l, x < 256) → c < 2 ^ 32 → crcL l c < 2 ^ 32
  | [], _, _, hc => hc
  | b :: r, _, hl, hc => crcL_lt r (fun x hx => hl x (by simp [hx])) (crcN_lt 8 (crc_in hc (hl b (by simp))))
theorem xor_inj {a b c : Nat} (h : a ^^^ c = b ^^^ c) : a = b := by
  have := congrArg (· ^^^ c) h
  simpa [Nat.xor_assoc] using this
theorem xor_inj' {a b c : Nat} (h : c ^^^ a = c ^^^ b) : a = b := by
  rw [Nat.xor_comm c a, Nat.xor_comm c b] at h
  exact xor_inj h
theorem crcL_inj : ∀ (l : List Nat) {a b : Nat}, (∀ x ∈ l, x < 256) → a < 2 ^ 32 → b < 2 ^ 32 → crcL l a = crcL l b → a = b
  | [], _, _, _, _, _, h => h
  | x :: r, _, _, hl, ha, hb, h => by
    have hx := hl x (by simp)
    have h1 := crcL_inj r (fun x hx => hl x (by simp [hx])) (crcN_lt 8 (crc_in ha hx)) (crcN_lt 8 (crc_in hb hx)) h
    exact xor_inj (crcN_inj 8 (crc_in ha hx) (crc_in hb hx) h1)
/-- A byte that is changed is told. -/
theorem crcL_set : ∀ (l : List Nat) (n v : Nat) {c : Nat}, (∀ x ∈ l, x < 256) → v < 256 → c < 2 ^ 32 → (hn : n < l.length) → v ≠ l[n] → crcL (l.set n v) c ≠ crcL l c
  | [], _, _, _, _, _, _, hn, _ => by simp at hn
  | b :: r, 0, v, c, hl, hv, hc, _, hne => by
    intro h
    have hb := hl b (by simp)
    have h1 := crcL_inj r (fun x hx => hl x (by simp [hx])) (crcN_lt 8 (crc_in hc hv)) (crcN_lt 8 (crc_in hc hb)) h
    exact hne (xor_inj' (crcN_inj 8 (crc_in hc hv) (crc_in hc hb) h1))
  | b :: r, n + 1, v, c, hl, hv, hc, hn, hne => by
    have hb := hl b (by simp)
    exact crcL_set r n v (fun x hx => hl x (by simp [hx])) hv (crcN_lt 8 (crc_in hc hb)) (by simpa using hn) (by simpa using hne)

/-! ### The printed sum is that -/
theorem crc_bit (c : Nat) (hc : c < 2 ^ 32) : Go.bits .xor .i64 ((c : Int) / 2) (wrap64 (3988292384 * (Go.bits .and .i64 (c : Int) 1))) = ((crcB c : Nat) : Int) := by
  have h1 : Go.bits .and .i64 (c : Int) 1 = ((c % 2 : Nat) : Int) := by
    have := and_mask (c : Int) 1 (by decide)
    have h2 : Go.bits .and .i64 (c : Int) 1 = (c : Int) % 2 := this
    rw [h2]
    omega
  have h3 : c % 2 ≤ 1 := by omega
  have h4 : wrap64 (3988292384 * ((c % 2 : Nat) : Int)) = ((3988292384 * (c % 2) : Nat) : Int) := by
    rw [w64' _ (by omega)]
    omega
  have h5 : (c : Int) / 2 = ((c / 2 : Nat) : Int) := by omega
  rw [h1, h4, h5, xor_nat _ _ (by omega) (by omega)]
  rfl
theorem crc_l1 (d : ByteArray) (s i : Int) (r : Int) : ∀ (k j c : Nat), j + k = 8 → c < 2 ^ 32 → Ev (fun f => bits_Crc.l0 f d ((crcN k c : Nat) : Int) s (wrap64 (i + 1))) r → Ev (fun f => bits_Crc.l1 f d (c : Int) s i (j : Int)) r := by
  intro k
  induction k with
  | zero =>
    intro j c hj hc h
    refine Ev.step (fun f => ?_) h
    simp only [bits_Crc.l1]
    rw [if_neg (by omega)]
    rfl
  | succ k ih =>
    intro j c hj hc h
    refine Ev.step (fun f => ?_) (ih (j + 1) (crcB c) (by omega) (crcB_lt hc) h)
    simp only [bits_Crc.l1]
    have e : wrap64 ((j : Int) + 1) = ((j + 1 : Nat) : Int) := by rw [w64' _ (by omega)]; omega
    rw [if_pos (by omega), crc_bit c hc, e]
theorem crc_l0 (d : ByteArray) (hd : d.size ≤ 140737488351232) : ∀ (m i c : Nat), i + m = d.size → c < 2 ^ 32 → Ev (fun f => bits_Crc.l0 f d (c : Int) (d.size : Int) (i : Int)) ((crcL ((byt d).drop i) c ^^^ 4294967295 : Nat) : Int) := by
  intro m
  induction m with
  | zero =>
    intro i c hi hc
    refine Ev.step (fun f => ?_) (Ev.now _)
    simp only [bits_Crc.l0]
    rw [if_neg (by omega)]
    have hx := xor_nat c 4294967295 (by omega) (by decide)
    have hdr : (byt d).drop i = [] := List.drop_eq_nil_of_le (by rw [byt_length]; omega)
    rw [hdr]
    exact congrArg some hx
  | succ m ih =>
    intro i c hi hc
    have hlt : i < (byt d).length := by rw [byt_length]; omega
    have hb : (byt d)[i] < 256 := byt_lt d _ (List.getElem_mem _)
    have hdr : (byt d).drop i = (byt d)[i] :: (byt d).drop (i + 1) := List.drop_eq_getElem_cons hlt
    have hbt : bt d (i : Int) = (((byt d)[i] : Nat) : Int) := by
      rw [bt_byt, List.getD_eq_getElem?_getD, List.getElem?_eq_getElem hlt]
      rfl
    have h2 := ih (i + 1) (crcN 8 (c ^^^ (byt d)[i])) (by omega) (crcN_lt 8 (crc_in hc hb))
    rw [hdr]
    have e : wrap64 ((i : Int) + 1) = ((i + 1 : Nat) : Int) := by rw [w64' _ (by omega)]; omega
    have h3 := crc_l1 d (d.size : Int) (i : Int) ((crcL ((byt d).drop (i + 1)) (crcN 8 (c ^^^ (byt d)[i])) ^^^ 4294967295 : Nat) : Int) 8 0 (c ^^^ (byt d)[i]) rfl (crc_in hc hb) (by rw [e]; exact h2)
    refine Ev.step (fun f => ?_) h3
    simp only [bits_Crc.l0]
    rw [if_pos (by omega), if_pos (by omega), if_pos (by omega), hbt, w64' (((byt d)[i] : Nat) : Int) (by omega), xor_nat c _ (by omega) (by omega)]
    rfl
/-- The sum of bytes. -/
def crcOf (d : ByteArray) : Nat := crcL (byt d) 4294967295 ^^^ 4294967295
theorem crc_ev (d : ByteArray) (hd : d.size ≤ 140737488351232) : ∃ k, bits_Crc.f k d = some ((crcOf d : Nat) : Int) :=
  Ev.rounds (crc_l0 d hd d.size 0 4294967295 (by omega) (by decide))
theorem crc_calls (d : ByteArray) (hd : d.size ≤ 140737488351232) (w : World) : Calls Try.prog 33 #[.string d] w fun e w' => e = .returned (.int .i64 ((crcOf d : Nat) : Int)) ∧ Drawn0 w w' := by
  obtain ⟨k, hk⟩ := crc_ev d hd
  exact bits_Crc.calls k d _ w hk
/-- Bytes of which one is changed. -/
theorem crc_told (d d' : ByteArray) (n v : Nat) (hn : n < (byt d).length) (hv : v < 256) (hne : v ≠ (byt d)[n]) (h : byt d' = (byt d).set n v) : crcOf d' ≠ crcOf d := by
  intro e
  unfold crcOf at e
  have := xor_inj e
  rw [h] at this
  exact crcL_set (byt d) n v (byt_lt d) hv (by decide) hn hne this
end Go.Proofs.Ytpldapjcojjicaa.B
