/- Layer 1's writers, the program's and the document's, side by side: their contracts. Joined of texts: Layer 1 (bits): bits laid one by one lie as bits laid at once. No walk in this text. Layer 1 (bits): the document's writer: its contracts. Layer 1 (bits): the document's writer lays bits: its contract. -/
import Derived.Test.YtpldapjcojjicaaWr2
namespace Go.Proofs.Ytpldapjcojjicaa.B
open Go.RowKit Go.Proofs.YtpldapjcojjicaaW.PrintWords Go.Proofs.YtpldapjcojjicaaW.PrintLast Go.Proofs.YtpldapjcojjicaaW.PrintMore
set_option linter.unusedVariables false

theorem pow_split (m : Nat) (h : 8 ≤ m) : (2 : Nat) ^ m = 2 ^ (m - 8) * 256 := by
  rw [show (256 : Nat) = 2 ^ 8 from rfl, ← Nat.pow_add]
  congr 1
  omega
theorem wflush_ok : ∀ (f m : Nat) (xs : List Int) (H : Nat), m ≤ f → H < 2 ^ m →
    (wflush xs H m).2.1 < 2 ^ (wflush xs H m).2.2 ∧ (wflush xs H m).2.2 ≤ 7 ∧ 8 * (wflush xs H m).1.length + (wflush xs H m).2.2 = 8 * xs.length + m := by
  intro f
  induction f with
  | zero =>
    intro m xs H hm hH
    rw [wflush_end (by omega)]
    exact ⟨hH, by show m ≤ 7; omega, rfl⟩
  | succ f ih =>
    intro m xs H hm hH
    by_cases c : 8 ≤ m
    · rw [← wflush_go c]
      have hH2 : H / 256 < 2 ^ (m - 8) := by
        rw [Nat.div_lt_iff_lt_mul (by decide), ← pow_split m c]
        exact hH
      obtain ⟨h1, h2, h3⟩ := ih (m - 8) (xs ++ [((H % 256 : Nat) : Int)]) (H / 256) (by omega) hH2
      refine ⟨h1, h2, ?_⟩
      rw [h3, List.length_append, List.length_singleton]
      omega
    · rw [wflush_end c]
      exact ⟨hH, by show m ≤ 7; omega, rfl⟩
/-- One more bit. -/
theorem wflush_one : ∀ (f m : Nat) (xs : List Int) (H b : Nat), m ≤ f → H < 2 ^ m →
    wflush (wflush xs H m).1 ((wflush xs H m).2.1 + b * 2 ^ (wflush xs H m).2.2) ((wflush xs H m).2.2 + 1) = wflush xs (H + b * 2 ^ m) (m + 1) := by
  intro f
  induction f with
  | zero =>
    intro m xs H b hm hH
    rw [wflush_end (show ¬ 8 ≤ m by omega)]
  | succ f ih =>
    intro m xs H b hm hH
    by_cases c : 8 ≤ m
    · have hH2 : H / 256 < 2 ^ (m - 8) := by
        rw [Nat.div_lt_iff_lt_mul (by decide), ← pow_split m c]
        exact hH
      rw [← wflush_go c, ih (m - 8) _ _ b (by omega) hH2]
      conv => rhs; rw [← wflush_go (show 8 ≤ m + 1 by omega)]
      have e1 : (H + b * 2 ^ m) % 256 = H % 256 := by
        rw [pow_split m c, ← Nat.mul_assoc]
        omega
      have e2 : (H + b * 2 ^ m) / 256 = H / 256 + b * 2 ^ (m - 8) := by
        rw [pow_split m c, ← Nat.mul_assoc]
        omega
      rw [e1, e2, show m + 1 - 8 = m - 8 + 1 by omega]
    · rw [wflush_end c]
/-- The next bit of a number. -/
theorem bit_next (x : Int) (i : Nat) : (x % 2 ^ (i + 1)).toNat = (x % 2 ^ i).toNat + (x / 2 ^ i % 2).toNat * 2 ^ i := by
  have hp : (0 : Int) < 2 ^ i := Int.pow_pos (by decide)
  have h0 := Int.emod_nonneg x (Int.ne_of_gt hp)
  have h1 := Int.emod_lt_of_pos x hp
  have h2 := Int.mul_ediv_add_emod x (2 ^ i)
  generalize hr : x % 2 ^ i = r at *
  generalize hq : x / 2 ^ i = q at *
  have h3 : 0 ≤ q % 2 := by omega
  have h4 : q % 2 < 2 := by omega
  have h5 : x = r + (q % 2) * 2 ^ i + 2 ^ (i + 1) * (q / 2) := by
    have : q = 2 * (q / 2) + q % 2 := by omega
    rw [← h2, Int.pow_succ]
    conv => lhs; rw [this]
    rw [Int.mul_add, Int.mul_comm (2 ^ i) (q % 2), ← Int.mul_assoc]
    omega
  have hb : (q % 2) * 2 ^ i ≤ 1 * 2 ^ i := Int.mul_le_mul_of_nonneg_right (by omega) (Int.le_of_lt hp)
  have hb0 : 0 ≤ (q % 2) * 2 ^ i := Int.mul_nonneg h3 (Int.le_of_lt hp)
  have h6 : x % 2 ^ (i + 1) = r + (q % 2) * 2 ^ i := by
    rw [h5, Int.add_mul_emod_self_left]
    refine Int.emod_eq_of_lt (by omega) ?_
    rw [Int.pow_succ]
    omega
  rw [h6]
  have e7 : (((q % 2).toNat * 2 ^ i : Nat) : Int) = (q % 2) * 2 ^ i := by
    rw [Int.natCast_mul, Int.toNat_of_nonneg h3, ← pow_cast]
  omega
/-- What is laid when i bits of x are laid. -/
def wAt (ys : List Int) (h n : Nat) (x : Int) (i : Nat) : List Int × Nat × Nat := wflush ys (h + (x % 2 ^ i).toNat * 2 ^ n) (n + i)
theorem wAt_zero (ys : List Int) (h n : Nat) (x : Int) (hn : n ≤ 7) : wAt ys h n x 0 = (ys, h, n) := by
  unfold wAt
  rw [Int.pow_zero, Int.emod_one, wflush_end (by omega)]
  simp
theorem wAt_next (ys : List Int) (h n : Nat) (x : Int) (i : Nat) (hh : h < 2 ^ n) :
    wflush (wAt ys h n x i).1 ((wAt ys h n x i).2.1 + (x / 2 ^ i % 2).toNat * 2 ^ (wAt ys h n x i).2.2) ((wAt ys h n x i).2.2 + 1) = wAt ys h n x (i + 1) := by
  unfold wAt
  rw [wflush_one (n + i) (n + i) ys _ _ (Nat.le_refl _) (wr_lt x h n i hh), bit_next, Nat.add_mul, Nat.mul_assoc, ← Nat.pow_add, Nat.add_comm i n, Nat.add_assoc, Nat.add_assoc]
theorem wAt_ok (ys : List Int) (h n : Nat) (x : Int) (i : Nat) (hh : h < 2 ^ n) :
    (wAt ys h n x i).2.1 < 2 ^ (wAt ys h n x i).2.2 ∧ (wAt ys h n x i).2.2 ≤ 7 ∧ 8 * (wAt ys h n x i).1.length + (wAt ys h n x i).2.2 = 8 * ys.length + (n + i) :=
  wflush_ok (n + i) (n + i) ys _ (Nat.le_refl _) (wr_lt x h n i hh)
/-- The byte that is being filled, filled by one bit. -/
theorem pad_next (ys : List Int) (h n b : Nat) (hn : n ≤ 7) (hh : h < 2 ^ n) (hb : b < 2) :
    wpadF (wflush ys (h + b * 2 ^ n) (n + 1)).1 (wflush ys (h + b * 2 ^ n) (n + 1)).2.1 (wflush ys (h + b * 2 ^ n) (n + 1)).2.2 = ys ++ [((h + b * 2 ^ n : Nat) : Int)] := by
  have hp : (2 : Nat) ^ n ≤ 2 ^ 7 := two_pow_le hn
  have hm : b * 2 ^ n ≤ 1 * 2 ^ n := Nat.mul_le_mul_right _ (by omega)
  by_cases h7 : n = 7
  · subst h7
    rw [← wflush_go (by decide), wflush_end (by decide)]
    unfold wpadF
    rw [if_pos rfl, Nat.mod_eq_of_lt (by omega)]
  · rw [wflush_end (by omega)]
    exact if_neg (Nat.succ_ne_zero n)
theorem u8_wrap (x : Int) : IntKind.u8.wrap x = x % 256 := by
  unfold IntKind.wrap
  rfl
theorem u8_or (h b n : Nat) (hn : n ≤ 7) (hh : h < 2 ^ n) (hb : b < 2) : Go.bits .or .u8 (h : Int) (shl .u8 (b : Int) (n : Int)) = ((h + b * 2 ^ n : Nat) : Int) := by
  have hp : (2 : Nat) ^ n ≤ 2 ^ 7 := two_pow_le hn
  have hm : b * 2 ^ n ≤ 1 * 2 ^ n := Nat.mul_le_mul_right _ (by omega)
  have e : shl .u8 (b : Int) (n : Int) = ((b * 2 ^ n : Nat) : Int) := by
    unfold shl
    rw [Int.toNat_natCast, Nat.min_eq_left (show n ≤ IntKind.u8.bits from Nat.le_trans hn (by decide)), pow_cast, ← Int.natCast_mul, u8_wrap]
    omega
  rw [e, bits_or_comm]
  have h := bits_join .u8 8 (by decide) (fun m h0 h1 => by rw [u8_wrap]; omega) n ((b * 2 ^ n : Nat) : Int) (h : Int) (by omega)
    (by rw [show ((2 : Int) ^ n) = ((2 ^ n : Nat) : Int) by simp, ← Int.natCast_emod]; simp) (by omega) (by omega) (by rw [pow_cast]; exact_mod_cast hh) (by omega)
  rw [h]
  omega
theorem x_bit (x : Int) (i : Nat) (hi : i < 24) : Go.bits .and .i64 (shr .i64 x (i : Int)) 1 = (((x / 2 ^ i % 2).toNat : Nat) : Int) ∧ (x / 2 ^ i % 2).toNat < 2 := by
  have h := and_mask (x / 2 ^ i) 1 (by decide)
  have e : shr .i64 x (i : Int) = x / 2 ^ i := by
    unfold shr
    rw [Int.toNat_natCast, Nat.min_eq_left (show i ≤ IntKind.i64.bits from Nat.le_trans (Nat.le_of_lt hi) (by decide))]
  rw [e]
  have h2 : Go.bits .and .i64 (x / 2 ^ i) 1 = x / 2 ^ i % 2 := h
  rw [h2]
  omega
end Go.Proofs.Ytpldapjcojjicaa.B

namespace Go.Proofs.Ytpldapjcojjicaa.B
open Go.RowKit Go.Proofs.YtpldapjcojjicaaW.PrintWords Go.Proofs.YtpldapjcojjicaaW.PrintLast Go.Proofs.YtpldapjcojjicaaW.PrintMore
set_option linter.unusedVariables false
set_option linter.unusedSimpArgs false

/-- The document's writer at block g. -/
def IsV (W : World) (g : Nat) (v : Value) (N : Int) : Prop := W.heap[g]? = some (.cells #[v, .int .i64 N] 45 (0, 0))
/-- What is known of it behind a call on it. -/
structure VPost (W W' : World) (B g : Nat) (v v' : Value) (ys' : List Int) (h' n' : Nat) : Prop where
  st : IsV W' g v' ((8 * ys'.length + n' : Nat) : Int)
  row : Row W' B v' (wpadF ys' h' n')
  fr : Fr (fun b => b = g ∨ v.ownBlock = some b) W W'
  at_ : v'.ownBlock = v.ownBlock ∨ ∃ b, v'.ownBlock = some b ∧ W.heap.size ≤ b
theorem vrow_ne {W : World} {B g : Nat} {v v' : Value} {N : Int} {xs : List Int} (hR : Row W B v xs) (hI : IsV W g v' N) : some g ≠ v.ownBlock := row_ne hR hI (by decide)

set_option maxHeartbeats 400000 in
set_option maxRecDepth 100000 in
theorem vbytes_calls (W : World) (B g : Nat) (v : Value) (ys : List Int) (h n : Nat) (s : ByteArray) (hI : IsV W g v ((8 * ys.length + n : Nat) : Int)) (hR : Row W B v (wpadF ys h n)) (hB : B ≤ W.heap.size) (hx : ys.length ≤ 1000000000000) (hs : s.size ≤ 1000000000000) :
    Calls Try.prog 28 #[.pointer (some ⟨g, 0, none⟩), .string s] W fun e W' => e = .returned (.tuple #[]) ∧ ∃ v', VPost W W' B g v v' (wpadF ys h n ++ bytesOf s) 0 0 := by
  have hlen : (wpadF ys h n).length ≤ ys.length + 1 := by unfold wpadF; split <;> simp
  have hsl : (bytesOf s).length = s.size := bytesOf_length s
  generalize wpadF ys h n = xs at *
  obtain ⟨zs, hzs⟩ : ∃ zs, xs ++ bytesOf s = zs := ⟨_, rfl⟩
  have hzl := Aside0.mk (show zs.length = xs.length + s.size by rw [← hzs, List.length_append, hsl])
  rw [hzs]
  have hzs := Aside0.mk hzs
  have hsl := Aside0.mk hsl
  obtain ⟨A1, C1, rfl⟩ := own_slice hR
  have hI := Aside0.mk hI
  have hR := Aside0.mk hR
  have c0 : W.cell? ⟨g, 0, none⟩ = some (.slice A1 xs.length C1) := (blk_cell hI.out 0).trans rfl
  have f0 := blk_frozen hI.out 0
  go_enter Try.func28, Try.ntmps28
  go_wp2_with (first | ((with_reducible refine gate_builtin (b := .append) (xs := #[.tmp 8, .tmp 9]) rfl ?_); (try (refine gate_guard (by rfl) ?_; dsimp only)); at_builtin; refine print_append_str_at B rfl (.tmp 8) (.tmp 9) 43 9 5 rfl Try.underlying43 Try.underlying9 info5 (.slice A1 xs.length C1) xs s rfl rfl hR.out hB ?_ ?_; (· omega); intro v2 w2 hO2 hg2 hat2; rw [hzs.out] at hO2; obtain ⟨A2, C2, rfl⟩ := own_slice hO2; replace hO2 := Aside0.mk hO2; replace hg2 := Aside0.mk hg2; replace hat2 := Aside0.mk hat2; have hI2 : Aside0 (IsV w2 g (.slice A1 xs.length C1) ((8 * ys.length + n : Nat) : Int)) := ⟨(hg2.out.block g (blk_lt hI.out) (vrow_ne hR.out hI.out)).trans hI.out⟩; have c2 : w2.cell? ⟨g, 0, none⟩ = some (.slice A1 xs.length C1) := (blk_cell hI2.out 0).trans rfl; have f2 := blk_frozen hI2.out 0; have c3 : (w2.setCell ⟨g, 0, none⟩ (.slice A2 zs.length C2)).cell? ⟨g, 0, none⟩ = some (.slice A2 zs.length C2) := (blk_cell (blk_set hI2.out 0 (.slice A2 zs.length C2)) 0).trans rfl; have c4 : (w2.setCell ⟨g, 0, none⟩ (.slice A2 zs.length C2)).cell? ⟨g, 1, none⟩ = some (.int .i64 ((8 * ys.length + n : Nat) : Int)) := (blk_cell (blk_set hI2.out 0 (.slice A2 zs.length C2)) 1).trans rfl; have hzb : zs.length ≤ 3000000000000 := (by have := hzl.out; omega); have f3 := blk_frozen (blk_set hI2.out 0 (.slice A2 zs.length C2)) 1; clear c0 f0))
  go_end0
  have hw := vrow_ne hR.out hI.out
  have hz := blk_set (blk_set hI2.out 0 (.slice A2 zs.length C2)) 1 (.int .i64 ((8 * zs.length + 0 : Nat) : Int))
  have e : ((8 * zs.length + 0 : Nat) : Int) = 8 * (zs.length : Int) := by omega
  refine ⟨rfl, .slice A2 zs.length C2, ?_, ?_, ?_, ?_⟩
  · unfold IsV
    rw [e] at hz ⊢
    exact hz
  · unfold wpadF
    rw [if_pos rfl]
    exact own_setCell (own_setCell hO2.out (vrow_ne hO2.out hI2.out) _) (vrow_ne hO2.out hI2.out) _
  · exact (((Fr.refl _ W).grown hg2.out (fun b hb hlt => .inr hb)).set_ _ _ (fun _ => .inl rfl)).set_ _ _ (fun _ => .inl rfl)
  · exact hat2.out

set_option maxHeartbeats 400000 in
theorem vtext_calls (W : World) (B g : Nat) (v : Value) (xs : List Int) (N : Int) (hI : IsV W g v N) (hR : Row W B v xs) :
    Calls Try.prog 32 #[.pointer (some ⟨g, 0, none⟩)] W fun e W' => e = .returned (.string (strOfNums xs)) ∧ W' = W := by
  obtain ⟨A0, C0, rfl⟩ := own_slice hR
  have c0 : W.cell? ⟨g, 0, none⟩ = some (.slice A0 xs.length C0) := (blk_cell hI 0).trans rfl
  have f0 := blk_frozen hI 0
  have hcv := own_string (P := Try.prog) Try.underlying43 Try.underlying5 Try.underlying9 hR
  clear hI hR
  go_enter Try.func32, Try.ntmps32
  go_wp2
  go_ret
  exact ⟨rfl, rfl⟩
theorem vnew (W : World) (g : Nat) (hI : W.heap[g]? = some (.cells #[.slice none 0 0, .int .i64 0] 45 (0, 0))) : IsV W g (.slice none 0 0) 0 := hI
end Go.Proofs.Ytpldapjcojjicaa.B

namespace Go.Proofs.Ytpldapjcojjicaa.B
open Go.RowKit Go.Proofs.YtpldapjcojjicaaW.PrintWords Go.Proofs.YtpldapjcojjicaaW.PrintLast Go.Proofs.YtpldapjcojjicaaW.PrintMore
set_option linter.unusedVariables false
set_option linter.unusedSimpArgs false

theorem nn_mod (a n : Nat) (hn : n ≤ 7) : Int.tmod ((8 * a + n : Nat) : Int) 8 = (n : Int) := by
  rw [Int.tmod_eq_emod_of_nonneg (Int.natCast_nonneg _)]
  omega
theorem nn_div (a n : Nat) (hn : n ≤ 7) : Int.tdiv ((8 * a + n : Nat) : Int) 8 = (a : Int) := by
  rw [Int.tdiv_eq_ediv_of_nonneg (Int.natCast_nonneg _)]
  omega
theorem nn_b (a n : Nat) (ha : a ≤ 1000000000000 + 5) (hn : n ≤ 7) : 0 ≤ ((8 * a + n : Nat) : Int) ∧ ((8 * a + n : Nat) : Int) ≤ 8000000001000 := by omega
theorem small_w (a : Nat) (ha : a ≤ 1000000000000 + 5) : wrap64 (a : Int) = (a : Int) := w64' _ (by omega)
theorem min64 (i k : Nat) (h : i < k) (hk : k ≤ 24) : min i 64 = i := Nat.min_eq_left (by omega)
theorem min8 (n : Nat) (h : n ≤ 7) : min n 8 = n := Nat.min_eq_left (by omega)
theorem x_bit' (x : Int) (i k : Nat) (h : i < k) (hk : k ≤ 24) : Go.bits .and .i64 (x / 2 ^ i) 1 = (((x / 2 ^ i % 2).toNat : Nat) : Int) ∧ (x / 2 ^ i % 2).toNat < 2 := by
  have hxb := x_bit x i (by omega)
  have hxe : shr .i64 x (i : Int) = x / 2 ^ i := by
    unfold shr
    rw [Int.toNat_natCast, Nat.min_eq_left (show i ≤ IntKind.i64.bits from Nat.le_trans (Nat.le_of_lt (Nat.lt_of_lt_of_le h hk)) (by decide))]
  rw [hxe] at hxb
  exact hxb
theorem u8_or' (h b n : Nat) (hn : n ≤ 7) (hh : h < 2 ^ n) (hb : b < 2) : Go.bits .or .u8 (h : Int) (IntKind.u8.wrap (IntKind.u8.wrap (b : Int) * 2 ^ n)) = ((h + b * 2 ^ n : Nat) : Int) := by
  have hor := u8_or h b n hn hh hb
  have hor2 : shl .u8 (b : Int) (n : Int) = IntKind.u8.wrap (IntKind.u8.wrap (b : Int) * 2 ^ n) := by
    unfold shl
    rw [Int.toNat_natCast, Nat.min_eq_left (show n ≤ IntKind.u8.bits from Nat.le_trans hn (by decide)), u8_wrap (b : Int), Int.emod_eq_of_lt (by omega) (by omega)]
  rw [hor2] at hor
  exact hor
theorem one_lt (h b n : Nat) (hh : h < 2 ^ n) (hb : b < 2) : h + b * 2 ^ n < 2 ^ (n + 1) := by
  have hm : b * 2 ^ n ≤ 1 * 2 ^ n := Nat.mul_le_mul_right _ (by omega)
  rw [Nat.pow_succ]
  omega
theorem row_set (ys : List Int) (h x : Int) (J : Int) (hJ : (ys.length : Int) = J) : (ys ++ [h]).set J.toNat x = ys ++ [x] := by
  rw [← hJ, Int.toNat_natCast, List.set_append_right _ _ (Nat.le_refl _), Nat.sub_self]
  rfl

set_option maxHeartbeats 1000000 in
set_option maxRecDepth 100000 in
theorem vbits_yes (W : World) (B g : Nat) (v : Value) (ys : List Int) (h n k : Nat) (x : Int) (hI : IsV W g v ((8 * ys.length + n : Nat) : Int)) (hR : Row W B v (wpadF ys h n)) (hB : B ≤ W.heap.size) (hn : n ≤ 7) (hh : h < 2 ^ n) (hk : k ≤ 24) (hx : ys.length ≤ 1000000000000) :
    Calls Try.prog 30 #[.pointer (some ⟨g, 0, none⟩), .int .i64 x, .int .i64 (k : Int)] W fun e W' => e = .returned (.tuple #[]) ∧ ∃ v', VPost W W' B g v v' (wAt ys h n x k).1 (wAt ys h n x k).2.1 (wAt ys h n x k).2.2 := by
  have hI := Aside0.mk hI
  have hR := Aside0.mk hR
  have hh := Aside0.mk hh
  have k0 : decide ((k : Int) < 0) = false := decide_eq_false (by omega)
  have k24 : decide ((24 : Int) < (k : Int)) = false := decide_eq_false (by omega)
  have k24' : decide (24 < k) = false := decide_eq_false (by omega)
  go_enter Try.func30, Try.ntmps30
  go_wp2
  go_loopg [6] k (fun gh v6 wr => ∃ (i : Nat) (v1 : Value) (ys1 : List Int) (h1 n1 : Nat), v6 = .int .i64 (i : Int) ∧ i ≤ k ∧ k - i ≤ gh ∧ Aside0 (IsV wr g v1 ((8 * ys1.length + n1 : Nat) : Int)) ∧ Aside0 (Row wr B v1 (wpadF ys1 h1 n1)) ∧ Aside0 (wAt ys h n x i = (ys1, h1, n1)) ∧ n1 ≤ 7 ∧ Aside0 (h1 < 2 ^ n1) ∧ ys1.length ≤ ys.length + 5 ∧ Aside0 (Fr (fun b => b = g ∨ v.ownBlock = some b) W wr) ∧ Aside0 (v1.ownBlock = v.ownBlock ∨ ∃ b, v1.ownBlock = some b ∧ W.heap.size ≤ b))
  case atStart => exact ⟨0, v, ys, h, n, rfl, by omega, by omega, hI, hR, ⟨wAt_zero ys h n x hn⟩, hn, hh, by omega, ⟨Fr.refl _ _⟩, ⟨.inl rfl⟩⟩
  case round =>
    obtain ⟨i, v1, ys1, h1, n1, rfl, hik, hgh, HI, HR, HA, hn1, hh1, hl1, HF, HT⟩ := hrel
    by_cases hc : i < k
    · have hcb : decide ((i : Int) < (k : Int)) = true := decide_eq_true (by omega)
      have hcb' : decide (i < k) = true := decide_eq_true hc
      obtain ⟨NN, hNN⟩ : ∃ NN : Int, ((8 * ys1.length + n1 : Nat) : Int) = NN := ⟨_, rfl⟩
      have m8 : Int.tmod NN 8 = (n1 : Int) := by rw [← hNN]; exact nn_mod _ _ hn1
      have d8 := Aside0.mk (show Int.tdiv NN 8 = (ys1.length : Int) by rw [← hNN]; exact nn_div _ _ hn1)
      have hNw := Aside0.mk (show 0 ≤ NN ∧ NN ≤ 8000000001000 by rw [← hNN]; exact nn_b _ _ (Nat.le_trans hl1 (Nat.add_le_add_right hx 5)) hn1)
      rw [hNN] at HI
      have hNN := Aside0.mk hNN
      have c1 : wr.cell? ⟨g, 1, none⟩ = some (.int .i64 NN) := (blk_cell HI.out 1).trans rfl
      have f1 := blk_frozen HI.out 1
      go_upto_if 23 with (fail)
      go_cut [] (fun wc => ∃ (v2 : Value), Aside0 (IsV wc g v2 NN) ∧ Aside0 (Row wc B v2 (ys1 ++ [(h1 : Int)])) ∧ Aside0 (Fr (fun b => b = g ∨ v.ownBlock = some b) W wc) ∧ Aside0 (v2.ownBlock = v.ownBlock ∨ ∃ b, v2.ownBlock = some b ∧ W.heap.size ≤ b))
      case first =>
        by_cases h0 : n1 = 0
        · subst h0
          obtain rfl : h1 = 0 := by have := hh1.out; simpa using this
          rw [show wpadF ys1 0 0 = ys1 from if_pos rfl] at HR
          obtain ⟨A1, C1, rfl⟩ := own_slice HR.out
          have c0 : wr.cell? ⟨g, 0, none⟩ = some (.slice A1 ys1.length C1) := (blk_cell HI.out 0).trans rfl
          have f0 := blk_frozen HI.out 0
          have hB2 : B ≤ wr.heap.size := Nat.le_trans hB HF.out.size
          have hb0 : (((0 : Nat) : Int) == 0) = true := rfl
          have c0' : ∀ o : Obj, (wr.alloc o).cell? ⟨g, 0, none⟩ = some (.slice A1 ys1.length C1) := fun o => (blk_cell ((Below.heap_alloc _ _ _ (blk_lt HI.out)).trans HI.out) 0).trans rfl
          go_wp2_with (first | ((with_reducible refine gate_builtin (b := .append) (xs := #[.tmp 28, .tmp 29]) rfl ?_); (try (refine gate_guard (by rfl) ?_; dsimp only)); at_builtin; refine print_append (w0 := wr) B rfl (.tmp 28) (.tmp 29) 43 5 (.int .u8 0) 1 rfl Try.underlying43 info5 rfl (by decide) (.slice A1 ys1.length C1) (nums .u8 ys1) (.int .u8 0) rfl rfl rfl (by rw [nums_length]; exact HR.out) (Below.refl _ _) hB2 (by rw [nums_length]; omega) ?_; intro v2 w2 hO2 _ hg2 hat2; have hO3 : Row w2 B v2 (ys1 ++ [((0 : Nat) : Int)]) := (by unfold Row; rw [nums_append]; have := hO2; rw [List.length_append, nums_length] at this; rw [List.length_append]; exact this); clear hO2; obtain ⟨A2, C2, rfl⟩ := own_slice hO3; replace hO3 := Aside0.mk hO3; replace hg2 := Aside0.mk hg2; replace hat2 := Aside0.mk hat2; have hI2 : Aside0 (IsV w2 g (.slice A1 ys1.length C1) NN) := ⟨(hg2.out.block g (blk_lt HI.out) (vrow_ne HR.out HI.out)).trans HI.out⟩; have c2 : w2.cell? ⟨g, 0, none⟩ = some (.slice A1 ys1.length C1) := (blk_cell hI2.out 0).trans rfl; have f2 := blk_frozen hI2.out 0; clear c0 f0 c0'))
          go_meet
          case rel =>
            refine ⟨.slice A2 (ys1 ++ [((0 : Nat) : Int)]).length C2, ⟨?_⟩, ⟨own_setCell hO3.out (vrow_ne hO3.out hI2.out) _⟩, ⟨(HF.out.grown hg2.out (fun b hb hlt => ?_)).set_ _ _ (fun _ => .inl rfl)⟩, ⟨?_⟩⟩
            · have hz := blk_set (show w2.heap[g]? = some (.cells #[.slice A1 ys1.length C1, .int .i64 NN] 45 (0, 0)) from hI2.out) 0 (.slice A2 (ys1 ++ [((0 : Nat) : Int)]).length C2)
              rw [List.length_append, List.length_singleton] at hz ⊢
              exact hz
            · rcases HT.out with h5 | ⟨b', h5, h6⟩
              · exact .inr (h5.symm.trans hb)
              · rw [h5] at hb; cases hb; omega
            · rcases hat2.out with h5 | ⟨b, h5, h6⟩
              · rw [h5]; exact HT.out
              · exact .inr ⟨b, h5, Nat.le_trans HF.out.size h6⟩
        · have hb0 : (((n1 : Nat) : Int) == 0) = false := beq_eq_false_iff_ne.mpr (by omega)
          have hb1 : (n1 == 0) = false := beq_eq_false_iff_ne.mpr h0
          have hpad : wpadF ys1 h1 n1 = ys1 ++ [(h1 : Int)] := if_neg h0
          go_wp2
          go_meet
          case rel => exact ⟨v1, HI, ⟨by rw [← hpad]; exact HR.out⟩, HF, HT⟩
      case rest =>
        obtain ⟨v2, HI2, HO2, HF2, HT2⟩ := hcut
        clear HI HR HF HT c1 f1
        obtain ⟨xs6, hxs6⟩ : ∃ xs6, ys1 ++ [(h1 : Int)] = xs6 := ⟨_, rfl⟩
        rw [hxs6] at HO2
        obtain ⟨L6, hL6⟩ : ∃ L6, xs6.length = L6 := ⟨_, rfl⟩
        have hL : L6 = ys1.length + 1 := by rw [← hL6, ← hxs6]; simp
        obtain ⟨G, C6, rfl, hGb, hGl⟩ := HO2.out.form (by rw [hL6, hL]; exact Nat.succ_pos _)
        obtain ⟨J, hJ⟩ : ∃ J : Int, (ys1.length : Int) = J := ⟨_, rfl⟩
        have hJ0 : 0 ≤ J := by rw [← hJ]; exact Int.natCast_nonneg _
        have hJ1 : J < (L6 : Int) := by rw [← hJ, hL]; exact Int.ofNat_lt.2 (Nat.lt_succ_self _)
        have hrd : rd xs6 J = (h1 : Int) := by
          unfold rd
          rw [← hJ, Int.toNat_natCast, ← hxs6, List.getD_eq_getElem?_getD]
          simp
        have hc6 := (own_at HO2.out J hJ0 (by rw [hL6]; exact hJ1)).1
        have hf6 := (own_at HO2.out J hJ0 (by rw [hL6]; exact hJ1)).2
        rw [hrd] at hc6
        have c0 : wc.cell? ⟨g, 0, none⟩ = some (.slice (some ⟨G, 0, none⟩) L6 C6) := by have := (blk_cell HI2.out 0); rw [hL6] at this; exact this.trans rfl
        have c1 : wc.cell? ⟨g, 1, none⟩ = some (.int .i64 NN) := (blk_cell HI2.out 1).trans rfl
        have d8' : Int.tdiv NN 8 = J := by rw [d8.out, hJ]
        have wJ : wrap64 J = J := by rw [← hJ]; exact small_w _ (Nat.le_trans hl1 (Nat.add_le_add_right hx 5))
        have wJ' : IntKind.i64.wrap J = J := (i64_w J).trans wJ
        have wn : wrap64 (n1 : Int) = (n1 : Int) := small_w _ (Nat.le_trans hn1 (by decide))
        have wn' : IntKind.i64.wrap (n1 : Int) = (n1 : Int) := (i64_w _).trans wn
        have d8w : IntKind.i64.wrap (Int.tdiv NN 8) = J := by rw [d8']; exact wJ'
        clear wn wn'
        have hn1k := hn1
        obtain ⟨hxb, hb2⟩ := x_bit' x i k hc hk
        obtain ⟨b, hb⟩ : ∃ b : Nat, (x / 2 ^ i % 2).toNat = b := ⟨_, rfl⟩
        rw [hb] at hxb hb2
        have hb := Aside0.mk hb
        have hor := Aside0.mk (u8_or' h1 b n1 hn1 hh1.out hb2)
        have mi := min64 i k hc hk
        have m8n := min8 n1 hn1
        have hJ0' := eq_true hJ0
        have hJ1' := eq_true hJ1
        have hset := Aside0.mk (row_set ys1 (h1 : Int) ((h1 + b * 2 ^ n1 : Nat) : Int) J hJ)
        rw [hxs6] at hset
        obtain ⟨⟨ys2, h2, n2⟩, hs⟩ : ∃ s, wflush ys1 (h1 + b * 2 ^ n1) (n1 + 1) = s := ⟨_, rfl⟩
        have hok := wflush_ok (n1 + 1) (n1 + 1) ys1 (h1 + b * 2 ^ n1) (Nat.le_refl _) (one_lt h1 b n1 hh1.out hb2)
        have hpn := pad_next ys1 h1 n1 b hn1 hh1.out hb2
        have hAn := wAt_next ys h n x i hh.out
        have hAk := (wAt_ok ys h n x (i + 1) hh.out).2.2
        rw [HA.out] at hAn
        simp only [] at hAn
        rw [hb.out, hs] at hAn
        rw [hs] at hok hpn
        rw [← hAn] at hAk
        have hok := Aside0.mk hok
        have hpn := Aside0.mk hpn
        have hAn := Aside0.mk hAn
        have hAk := Aside0.mk hAk
        have hs := Aside0.mk hs
        have hgh := Aside0.mk hgh
        have hl1 := Aside0.mk hl1
        have hb2 := Aside0.mk hb2
        have hn1 := Aside0.mk hn1
        have hik := Aside0.mk hik
        have hx := Aside0.mk hx
        have hc := Aside0.mk hc
        have hk := Aside0.mk hk
        have hB := Aside0.mk hB
        have hn := Aside0.mk hn
        have hne := Aside0.mk (vrow_ne HO2.out HI2.out)
        clear hJ hL hxs6 hGb hGl hJ0 hJ1 hrd
        go_wp2
        refine start_ (n := 34) (S := fun w' => w'.cell? ⟨g, 0, none⟩ = some (.slice (some ⟨G, 0, none⟩) L6 C6) ∧ w'.cell? ⟨g, 1, none⟩ = some (.int .i64 NN) ∧ w'.cell? ⟨G, J.toNat, none⟩ = some (.int .u8 (h1 : Int))) (ds := [33]) #[false, false, false, false, false, false, false, false, false, false, false, false, false, false, false, false, false, false, false, false, false, false, false, false, false, false, false, false, false, false, false, false, false, false] (by kernel_rfl) rfl rfl ⟨c0, c1, hc6⟩ (fun hHeld => ?_)
        refine pure_ (i := 0) (N := some 33) (v := ?_) (a' := ?_) #[true, false, false, false, false, false, false, false, false, false, false, false, false, false, false, false, false, false, false, false, false, false, false, false, false, false, false, false, false, false, false, false, false, false] rfl rfl (by kernel_rfl) (fun _ _ _ h => h) (Or.inl ⟨by rfl, ?_⟩) ?_ ?_
        rotate_left
        · intro w'
          go_simp
          with_reducible rfl
        rotate_left
        · simp only [Act.put, List.setIfInBounds_toArray, List.set_cons_zero, List.set_cons_succ, i64_w, i32_w]
          rfl
        refine pure_ (i := 1) (N := some 34) (v := ?_) (a' := ?_) #[true, true, false, false, false, false, false, false, false, false, false, false, false, false, false, false, false, false, false, false, false, false, false, false, false, false, false, false, false, false, false, false, false, false] rfl rfl (by kernel_rfl) (fun _ _ _ h => h) (Or.inl ⟨by rfl, ?_⟩) ?_ ?_
        rotate_left
        · intro w'
          go_simp
          with_reducible rfl
        rotate_left
        · simp only [Act.put, List.setIfInBounds_toArray, List.set_cons_zero, List.set_cons_succ, i64_w, i32_w]
          rfl
        refine pure_ (i := 2) (N := some 35) (v := ?_) (a' := ?_) #[true, true, true, false, false, false, false, false, false, false, false, false, false, false, false, false, false, false, false, false, false, false, false, false, false, false, false, false, false, false, false, false, false, false] rfl rfl (by kernel_rfl) (fun _ _ _ h => h) (Or.inl ⟨by rfl, ?_⟩) ?_ ?_
        rotate_left
        · intro w'
          go_simp
          with_reducible rfl
        rotate_left
        · simp only [Act.put, List.setIfInBounds_toArray, List.set_cons_zero, List.set_cons_succ, i64_w, i32_w]
          rfl
        refine pure_ (i := 4) (N := some 37) (v := ?_) (a' := ?_) #[true, true, true, false, true, false, false, false, false, false, false, false, false, false, false, false, false, false, false, false, false, false, false, false, false, false, false, false, false, false, false, false, false, false] rfl rfl (by kernel_rfl) (fun _ _ _ h => h) (Or.inl ⟨by rfl, ?_⟩) ?_ ?_
        rotate_left
        · intro w'
          go_simp
          with_reducible rfl
        rotate_left
        · simp only [Act.put, List.setIfInBounds_toArray, List.set_cons_zero, List.set_cons_succ, i64_w, i32_w]
          rfl
        refine pure_ (i := 5) (N := some 38) (v := ?_) (a' := ?_) #[true, true, true, false, true, true, false, false, false, false, false, false, false, false, false, false, false, false, false, false, false, false, false, false, false, false, false, false, false, false, false, false, false, false] rfl rfl (by kernel_rfl) (fun _ _ _ h => h) (Or.inl ⟨by rfl, ?_⟩) ?_ ?_
        rotate_left
        · intro w'
          go_simp
          with_reducible rfl
        rotate_left
        · simp only [Act.put, List.setIfInBounds_toArray, List.set_cons_zero, List.set_cons_succ, i64_w, i32_w]
          rfl
        refine pure_ (i := 6) (N := some 39) (v := ?_) (a' := ?_) #[true, true, true, false, true, true, true, false, false, false, false, false, false, false, false, false, false, false, false, false, false, false, false, false, false, false, false, false, false, false, false, false, false, false] rfl rfl (by kernel_rfl) (fun _ _ _ h => h) (Or.inl ⟨by rfl, ?_⟩) ?_ ?_
        rotate_left
        · intro w'
          go_simp
          with_reducible rfl
        rotate_left
        · simp only [Act.put, List.setIfInBounds_toArray, List.set_cons_zero, List.set_cons_succ, i64_w, i32_w]
          rfl
        refine pure_ (i := 9) (N := some 42) (v := ?_) (a' := ?_) #[true, true, true, false, true, true, true, false, false, true, false, false, false, false, false, false, false, false, false, false, false, false, false, false, false, false, false, false, false, false, false, false, false, false] rfl rfl (by kernel_rfl) (fun _ _ _ h => h) (Or.inl ⟨by rfl, ?_⟩) ?_ ?_
        rotate_left
        · intro w'
          go_simp
          with_reducible rfl
        rotate_left
        · simp only [Act.put, List.setIfInBounds_toArray, List.set_cons_zero, List.set_cons_succ, i64_w, i32_w]
          rfl
        refine pure_ (i := 10) (N := some 43) (v := ?_) (a' := ?_) #[true, true, true, false, true, true, true, false, false, true, true, false, false, false, false, false, false, false, false, false, false, false, false, false, false, false, false, false, false, false, false, false, false, false] rfl rfl (by kernel_rfl) (fun _ _ _ h => h) (Or.inl ⟨by rfl, ?_⟩) ?_ ?_
        rotate_left
        · intro w'
          go_simp
          with_reducible rfl
        rotate_left
        · simp only [Act.put, List.setIfInBounds_toArray, List.set_cons_zero, List.set_cons_succ, i64_w, i32_w]
          rfl
        refine pure_ (i := 11) (N := some 44) (v := ?_) (a' := ?_) #[true, true, true, false, true, true, true, false, false, true, true, true, false, false, false, false, false, false, false, false, false, false, false, false, false, false, false, false, false, false, false, false, false, false] rfl rfl (by kernel_rfl) (fun _ _ _ h => h) (Or.inl ⟨by rfl, ?_⟩) ?_ ?_
        rotate_left
        · intro w'
          go_simp
          with_reducible rfl
        rotate_left
        · simp only [Act.put, List.setIfInBounds_toArray, List.set_cons_zero, List.set_cons_succ, i64_w, i32_w]
          rfl
        refine pure_ (i := 13) (N := some 46) (v := ?_) (a' := ?_) #[true, true, true, false, true, true, true, false, false, true, true, true, false, true, false, false, false, false, false, false, false, false, false, false, false, false, false, false, false, false, false, false, false, false] rfl rfl (by kernel_rfl) (fun _ _ _ h => h) (Or.inl ⟨by rfl, ?_⟩) ?_ ?_
        rotate_left
        · intro w'
          go_simp
          with_reducible rfl
        rotate_left
        · simp only [Act.put, List.setIfInBounds_toArray, List.set_cons_zero, List.set_cons_succ, i64_w, i32_w]
          rfl
        refine pure_ (i := 14) (N := some 47) (v := ?_) (a' := ?_) #[true, true, true, false, true, true, true, false, false, true, true, true, false, true, true, false, false, false, false, false, false, false, false, false, false, false, false, false, false, false, false, false, false, false] rfl rfl (by kernel_rfl) (fun _ _ _ h => h) (Or.inl ⟨by rfl, ?_⟩) ?_ ?_
        rotate_left
        · intro w'
          go_simp
          with_reducible rfl
        rotate_left
        · simp only [Act.put, List.setIfInBounds_toArray, List.set_cons_zero, List.set_cons_succ, i64_w, i32_w]
          rfl
        refine pure_ (i := 15) (N := some 48) (v := ?_) (a' := ?_) #[true, true, true, false, true, true, true, false, false, true, true, true, false, true, true, true, false, false, false, false, false, false, false, false, false, false, false, false, false, false, false, false, false, false] rfl rfl (by kernel_rfl) (fun _ _ _ h => h) (Or.inl ⟨by rfl, ?_⟩) ?_ ?_
        rotate_left
        · intro w'
          go_simp
          with_reducible rfl
        rotate_left
        · simp only [Act.put, List.setIfInBounds_toArray, List.set_cons_zero, List.set_cons_succ, i64_w, i32_w]
          rfl
        refine pure_ (i := 20) (N := some 53) (v := ?_) (a' := ?_) #[true, true, true, false, true, true, true, false, false, true, true, true, false, true, true, true, false, false, false, false, true, false, false, false, false, false, false, false, false, false, false, false, false, false] rfl rfl (by kernel_rfl) (fun _ _ _ h => h) (Or.inl ⟨by rfl, ?_⟩) ?_ ?_
        rotate_left
        · intro w'
          go_simp
          with_reducible rfl
        rotate_left
        · simp only [Act.put, List.setIfInBounds_toArray, List.set_cons_zero, List.set_cons_succ, i64_w, i32_w]
          rfl
        refine pure_ (i := 21) (N := some 54) (v := ?_) (a' := ?_) #[true, true, true, false, true, true, true, false, false, true, true, true, false, true, true, true, false, false, false, false, true, true, false, false, false, false, false, false, false, false, false, false, false, false] rfl rfl (by kernel_rfl) (fun _ _ _ h => h) (Or.inl ⟨by rfl, ?_⟩) ?_ ?_
        rotate_left
        · intro w'
          go_simp
          with_reducible rfl
        rotate_left
        · simp only [Act.put, List.setIfInBounds_toArray, List.set_cons_zero, List.set_cons_succ, i64_w, i32_w]
          rfl
        refine pure_ (i := 22) (N := some 55) (v := ?_) (a' := ?_) #[true, true, true, false, true, true, true, false, false, true, true, true, false, true, true, true, false, false, false, false, true, true, true, false, false, false, false, false, false, false, false, false, false, false] rfl rfl (by kernel_rfl) (fun _ _ _ h => h) (Or.inl ⟨by rfl, ?_⟩) ?_ ?_
        rotate_left
        · intro w'
          go_simp
          with_reducible rfl
        rotate_left
        · simp only [Act.put, List.setIfInBounds_toArray, List.set_cons_zero, List.set_cons_succ, i64_w, i32_w]
          rfl
        refine pure_ (i := 23) (N := some 56) (v := ?_) (a' := ?_) #[true, true, true, false, true, true, true, false, false, true, true, true, false, true, true, true, false, false, false, false, true, true, true, true, false, false, false, false, false, false, false, false, false, false] rfl rfl (by kernel_rfl) (fun _ _ _ h => h) (Or.inl ⟨by rfl, ?_⟩) ?_ ?_
        rotate_left
        · intro w'
          go_simp
          with_reducible rfl
        rotate_left
        · simp only [Act.put, List.setIfInBounds_toArray, List.set_cons_zero, List.set_cons_succ, i64_w, i32_w]
          rfl
        refine pure_ (i := 24) (N := some 57) (v := ?_) (a' := ?_) #[true, true, true, false, true, true, true, false, false, true, true, true, false, true, true, true, false, false, false, false, true, true, true, true, true, false, false, false, false, false, false, false, false, false] rfl rfl (by kernel_rfl) (fun _ _ _ h => h) (Or.inl ⟨by rfl, ?_⟩) ?_ ?_
        rotate_left
        · intro w'
          go_simp
          with_reducible rfl
        rotate_left
        · simp only [Act.put, List.setIfInBounds_toArray, List.set_cons_zero, List.set_cons_succ, i64_w, i32_w]
          rfl
        refine pure_ (i := 25) (N := some 58) (v := ?_) (a' := ?_) #[true, true, true, false, true, true, true, false, false, true, true, true, false, true, true, true, false, false, false, false, true, true, true, true, true, true, false, false, false, false, false, false, false, false] rfl rfl (by kernel_rfl) (fun _ _ _ h => h) (Or.inl ⟨by rfl, ?_⟩) ?_ ?_
        rotate_left
        · intro w'
          go_simp
          with_reducible rfl
        rotate_left
        · simp only [Act.put, List.setIfInBounds_toArray, List.set_cons_zero, List.set_cons_succ, i64_w, i32_w]
          rfl
        refine pure_ (i := 26) (N := some 59) (v := ?_) (a' := ?_) #[true, true, true, false, true, true, true, false, false, true, true, true, false, true, true, true, false, false, false, false, true, true, true, true, true, true, true, false, false, false, false, false, false, false] rfl rfl (by kernel_rfl) (fun _ _ _ h => h) (Or.inl ⟨by rfl, ?_⟩) ?_ ?_
        rotate_left
        · intro w'
          go_simp
          with_reducible rfl
        rotate_left
        · simp only [Act.put, List.setIfInBounds_toArray, List.set_cons_zero, List.set_cons_succ, i64_w, i32_w]
          rfl
        refine pure_ (i := 27) (N := some 60) (v := ?_) (a' := ?_) #[true, true, true, false, true, true, true, false, false, true, true, true, false, true, true, true, false, false, false, false, true, true, true, true, true, true, true, true, false, false, false, false, false, false] rfl rfl (by kernel_rfl) (fun _ _ _ h => h) (Or.inl ⟨by rfl, ?_⟩) ?_ ?_
        rotate_left
        · intro w'
          go_simp
          with_reducible rfl
        rotate_left
        · simp only [Act.put, List.setIfInBounds_toArray, List.set_cons_zero, List.set_cons_succ, i64_w, i32_w]
          rfl
        refine take_ (i := 3) (N := some 36) (v := ?_) (a' := ?_) #[true, true, true, true, true, true, true, false, false, true, true, true, false, true, true, true, false, false, false, false, true, true, true, true, true, true, true, true, false, false, false, false, false, false] rfl rfl (by kernel_rfl) (fun _ _ _ h => h) (Or.inl ⟨by rfl, ?_⟩) hHeld ?_ ?_
        rotate_left
        · rintro w' ⟨s0, s1, s2⟩
          go_simp
          with_reducible rfl
        rotate_left
        · simp only [Act.put, List.setIfInBounds_toArray, List.set_cons_zero, List.set_cons_succ, i64_w, i32_w]
          rfl
        refine take_ (i := 7) (N := some 40) (v := ?_) (a' := ?_) #[true, true, true, true, true, true, true, true, false, true, true, true, false, true, true, true, false, false, false, false, true, true, true, true, true, true, true, true, false, false, false, false, false, false] rfl rfl (by kernel_rfl) (fun _ _ _ h => h) (Or.inl ⟨by rfl, ?_⟩) hHeld ?_ ?_
        rotate_left
        · rintro w' ⟨s0, s1, s2⟩
          go_simp
          with_reducible rfl
        rotate_left
        · simp only [Act.put, List.setIfInBounds_toArray, List.set_cons_zero, List.set_cons_succ, i64_w, i32_w]
          rfl
        refine pure_ (i := 8) (N := some 41) (v := ?_) (a' := ?_) #[true, true, true, true, true, true, true, true, true, true, true, true, false, true, true, true, false, false, false, false, true, true, true, true, true, true, true, true, false, false, false, false, false, false] rfl rfl (by kernel_rfl) (fun _ _ _ h => h) (Or.inl ⟨by rfl, ?_⟩) ?_ ?_
        rotate_left
        · intro w'
          go_simp
          with_reducible rfl
        rotate_left
        · simp only [Act.put, List.setIfInBounds_toArray, List.set_cons_zero, List.set_cons_succ, i64_w, i32_w]
          rfl
        refine take_ (i := 12) (N := some 45) (v := ?_) (a' := ?_) #[true, true, true, true, true, true, true, true, true, true, true, true, true, true, true, true, false, false, false, false, true, true, true, true, true, true, true, true, false, false, false, false, false, false] rfl rfl (by kernel_rfl) (fun _ _ _ h => h) (Or.inl ⟨by rfl, ?_⟩) hHeld ?_ ?_
        rotate_left
        · rintro w' ⟨s0, s1, s2⟩
          go_simp
          with_reducible rfl
        rotate_left
        · simp only [Act.put, List.setIfInBounds_toArray, List.set_cons_zero, List.set_cons_succ, i64_w, i32_w]
          rfl
        refine take_ (i := 16) (N := some 49) (v := ?_) (a' := ?_) #[true, true, true, true, true, true, true, true, true, true, true, true, true, true, true, true, true, false, false, false, true, true, true, true, true, true, true, true, false, false, false, false, false, false] rfl rfl (by kernel_rfl) (fun _ _ _ h => h) (Or.inl ⟨by rfl, ?_⟩) hHeld ?_ ?_
        rotate_left
        · rintro w' ⟨s0, s1, s2⟩
          go_simp
          with_reducible rfl
        rotate_left
        · simp only [Act.put, List.setIfInBounds_toArray, List.set_cons_zero, List.set_cons_succ, i64_w, i32_w]
          rfl
        refine pure_ (i := 17) (N := some 50) (v := ?_) (a' := ?_) #[true, true, true, true, true, true, true, true, true, true, true, true, true, true, true, true, true, true, false, false, true, true, true, true, true, true, true, true, false, false, false, false, false, false] rfl rfl (by kernel_rfl) (fun _ _ _ h => h) (Or.inl ⟨by rfl, ?_⟩) ?_ ?_
        rotate_left
        · intro w'
          go_simp
          with_reducible rfl
        rotate_left
        · simp only [Act.put, List.setIfInBounds_toArray, List.set_cons_zero, List.set_cons_succ, i64_w, i32_w]
          rfl
        refine pure_ (i := 18) (N := some 51) (v := ?_) (a' := ?_) #[true, true, true, true, true, true, true, true, true, true, true, true, true, true, true, true, true, true, true, false, true, true, true, true, true, true, true, true, false, false, false, false, false, false] rfl rfl (by kernel_rfl) (fun _ _ _ h => h) (Or.inl ⟨by rfl, ?_⟩) ?_ ?_
        rotate_left
        · intro w'
          go_simp
          with_reducible rfl
        rotate_left
        · simp only [Act.put, List.setIfInBounds_toArray, List.set_cons_zero, List.set_cons_succ, i64_w, i32_w]
          rfl
        refine take_ (i := 19) (N := some 52) (v := ?_) (a' := ?_) #[true, true, true, true, true, true, true, true, true, true, true, true, true, true, true, true, true, true, true, true, true, true, true, true, true, true, true, true, false, false, false, false, false, false] rfl rfl (by kernel_rfl) (fun _ _ _ h => h) (Or.inl ⟨by rfl, ?_⟩) hHeld ?_ ?_
        rotate_left
        · rintro w' ⟨s0, s1, s2⟩
          go_simp
          with_reducible rfl
        rotate_left
        · simp only [Act.put, List.setIfInBounds_toArray, List.set_cons_zero, List.set_cons_succ, i64_w, i32_w]
          rfl
        refine take_ (i := 28) (N := some 61) (v := ?_) (a' := ?_) #[true, true, true, true, true, true, true, true, true, true, true, true, true, true, true, true, true, true, true, true, true, true, true, true, true, true, true, true, true, false, false, false, false, false] rfl rfl (by kernel_rfl) (fun _ _ _ h => h) (Or.inl ⟨by rfl, ?_⟩) hHeld ?_ ?_
        rotate_left
        · rintro w' ⟨s0, s1, s2⟩
          go_simp
          with_reducible rfl
        rotate_left
        · simp only [Act.put, List.setIfInBounds_toArray, List.set_cons_zero, List.set_cons_succ, i64_w, i32_w]
          rfl
        refine pure_ (i := 29) (N := some 62) (v := ?_) (a' := ?_) #[true, true, true, true, true, true, true, true, true, true, true, true, true, true, true, true, true, true, true, true, true, true, true, true, true, true, true, true, true, true, false, false, false, false] rfl rfl (by kernel_rfl) (fun _ _ _ h => h) (Or.inl ⟨by rfl, ?_⟩) ?_ ?_
        rotate_left
        · intro w'
          go_simp
          with_reducible rfl
        rotate_left
        · simp only [Act.put, List.setIfInBounds_toArray, List.set_cons_zero, List.set_cons_succ, i64_w, i32_w]
          rfl
        refine pure_ (i := 30) (N := some 63) (v := ?_) (a' := ?_) #[true, true, true, true, true, true, true, true, true, true, true, true, true, true, true, true, true, true, true, true, true, true, true, true, true, true, true, true, true, true, true, false, false, false] rfl rfl (by kernel_rfl) (fun _ _ _ h => h) (Or.inl ⟨by rfl, ?_⟩) ?_ ?_
        rotate_left
        · intro w'
          go_simp
          with_reducible rfl
        rotate_left
        · simp only [Act.put, List.setIfInBounds_toArray, List.set_cons_zero, List.set_cons_succ, i64_w, i32_w]
          rfl
        refine pure_ (i := 31) (N := some 64) (v := ?_) (a' := ?_) #[true, true, true, true, true, true, true, true, true, true, true, true, true, true, true, true, true, true, true, true, true, true, true, true, true, true, true, true, true, true, true, true, false, false] rfl rfl (by kernel_rfl) (fun _ _ _ h => h) (Or.inl ⟨by rfl, ?_⟩) ?_ ?_
        rotate_left
        · intro w'
          go_simp
          with_reducible rfl
        rotate_left
        · simp only [Act.put, List.setIfInBounds_toArray, List.set_cons_zero, List.set_cons_succ, i64_w, i32_w]
          rfl
        refine pure_ (i := 32) (N := some 65) (v := ?_) (a' := ?_) #[true, true, true, true, true, true, true, true, true, true, true, true, true, true, true, true, true, true, true, true, true, true, true, true, true, true, true, true, true, true, true, true, true, false] rfl rfl (by kernel_rfl) (fun _ _ _ h => h) (Or.inl ⟨by rfl, ?_⟩) ?_ ?_
        rotate_left
        · intro w'
          go_simp
          with_reducible rfl
        rotate_left
        · simp only [Act.put, List.setIfInBounds_toArray, List.set_cons_zero, List.set_cons_succ, i64_w, i32_w]
          rfl
        refine last_ (i := 33) (N := none) #[true, true, true, true, true, true, true, true, true, true, true, true, true, true, true, true, true, true, true, true, true, true, true, true, true, true, true, true, true, true, true, true, true, true] rfl rfl (by kernel_rfl) (by decide) (fun K hK => ?_)
        refine skip_ (w1 := ?_) (by rfl) rfl ?_ ?_
        rotate_left
        · go_simp
          rfl
        refine hK.out _ _ ?_
        clear hK K
        refine done_ (by kernel_rfl) ?_
        rw [hor.out]
        clear hHeld
        have hgG : g ≠ G := fun e => hne.out (by rw [e]; rfl)
        have HI7 : Aside0 (IsV (wc.setCell ⟨G, J.toNat, none⟩ (.int .u8 ((h1 + b * 2 ^ n1 : Nat) : Int))).drew g (.slice (some ⟨G, 0, none⟩) xs6.length C6) NN) := ⟨(Below.heap_setCell wc ⟨G, J.toNat, none⟩ (.int .u8 ((h1 + b * 2 ^ n1 : Nat) : Int)) g hgG).trans HI2.out⟩
        have HO7 : Aside0 (Row (wc.setCell ⟨G, J.toNat, none⟩ (.int .u8 ((h1 + b * 2 ^ n1 : Nat) : Int))).drew B (.slice (some ⟨G, 0, none⟩) xs6.length C6) (ys1 ++ [((h1 + b * 2 ^ n1 : Nat) : Int)])) := ⟨by
          have := own_put HO2.out J ((h1 + b * 2 ^ n1 : Nat) : Int)
          rw [hset.out] at this
          exact this⟩
        have HF7 : Aside0 (Fr (fun b => b = g ∨ v.ownBlock = some b) W (wc.setCell ⟨G, J.toNat, none⟩ (.int .u8 ((h1 + b * 2 ^ n1 : Nat) : Int))).drew) := ⟨(HF2.out.set_ _ _ (fun hlt => by
          rcases HT2.out with h5 | ⟨b', h5, h6⟩
          · exact .inr h5.symm
          · cases h5; exact absurd hlt (Nat.not_lt.2 h6))).drew⟩
        obtain ⟨W7, hW7⟩ : ∃ W7, (wc.setCell ⟨G, J.toNat, none⟩ (.int .u8 ((h1 + b * 2 ^ n1 : Nat) : Int))).drew = W7 := ⟨_, rfl⟩
        rw [hW7] at HI7 HO7 HF7 ⊢
        clear hW7 c0 c1 hc6 hf6 HI2 HO2 HF2 d8' d8w m8 wJ wJ' hJ0' hJ1' mi m8n hxb
        have c1 : W7.cell? ⟨g, 1, none⟩ = some (.int .i64 NN) := (blk_cell HI7.out 1).trans rfl
        have f1 := blk_frozen HI7.out 1
        obtain ⟨wN0, wN1⟩ := hNw.out
        have hc1 : i ≤ 24 := Nat.le_of_lt (Nat.lt_of_lt_of_le hc.out hk.out)
        go_wp2
        go_roundg (k - (i + 1))
        case measure => have := hc.out; have := hgh.out; omega
        case rel =>
          have hn1' := hn1.out
          have hn' := hn.out
          have hc' := hc.out
          have hk' := hk.out
          have hAk' := hAk.out
          have hok' := hok.out
          have hNN' := hNN.out
          refine ⟨i + 1, .slice (some ⟨G, 0, none⟩) xs6.length C6, ys2, h2, n2, by go_num, by omega, Nat.le_refl _, ⟨?_⟩, ⟨?_⟩, ⟨hAn.out.symm⟩, hok'.2.1, ⟨hok'.1⟩, by clear hNN'; omega, ⟨HF7.out.set_ _ _ (fun _ => .inl rfl)⟩, HT2⟩
          · have hz := blk_set (show W7.heap[g]? = some (.cells #[.slice (some ⟨G, 0, none⟩) xs6.length C6, .int .i64 NN] 45 (0, 0)) from HI7.out) 1 (.int .i64 (NN + 1))
            have e : ((8 * ys2.length + n2 : Nat) : Int) = NN + 1 := by rw [← hNN']; omega
            rw [e]
            exact hz
          · rw [hpn.out]
            exact own_setCell HO7.out (vrow_ne HO7.out HI7.out) _
    · have hcb : decide ((i : Int) < (k : Int)) = false := decide_eq_false (by omega)
      have hcb' : decide (i < k) = false := decide_eq_false hc
      obtain rfl : i = k := by omega
      go_wp2
      go_end0
      rw [HA.out]
      exact ⟨rfl, v1, HI.out, HR.out, HF.out, HT.out⟩
end Go.Proofs.Ytpldapjcojjicaa.B

namespace Go.Proofs.Ytpldapjcojjicaa.B
open Go.RowKit Go.Proofs.YtpldapjcojjicaaW.PrintWords Go.Proofs.YtpldapjcojjicaaW.PrintLast Go.Proofs.YtpldapjcojjicaaW.PrintMore
set_option linter.unusedVariables false
set_option linter.unusedSimpArgs false

theorem WPost.blk {W W' : World} {B g : Nat} {v v' : Value} {xs xs' : List Int} {h' n' : Nat} (hP : WPost W W' B g v v' xs' h' n') (hR : Row W B v xs) {k : Nat} {cs : Array Value} {t : TypeId} (hk : W.heap[k]? = some (.cells cs t (0, 0))) (ht : t ≠ 5) (hg : k ≠ g) : W'.heap[k]? = some (.cells cs t (0, 0)) :=
  hP.fr.blk hk (fun h => h.elim hg (fun e => row_ne hR hk ht e.symm))
theorem WPost.frB {W W' : World} {B g : Nat} {v v' : Value} {xs xs' : List Int} {h' n' : Nat} (hP : WPost W W' B g v v' xs' h' n') (hR : Row W B v xs) (hg : B ≤ g) : Fr (fun b => B ≤ b) W W' :=
  hP.fr.mono (fun k _ h => by
    rcases h with rfl | h
    · exact hg
    · exact own_base hR k h)

theorem wbitsF_at (ys : List Int) (h n k : Nat) (x : Int) (hk : k ≤ 24) : wbitsF ys h n x (k : Int) = wAt ys h n x k := by
  unfold wbitsF wAt
  rw [if_neg (by omega), Int.toNat_natCast]
theorem wbitsF_ok (ys : List Int) (h n : Nat) (x k : Int) (hh : h < 2 ^ n) (hn : n ≤ 7) :
    (wbitsF ys h n x k).2.1 < 2 ^ (wbitsF ys h n x k).2.2 ∧ (wbitsF ys h n x k).2.2 ≤ 7 ∧ 8 * (wbitsF ys h n x k).1.length + (wbitsF ys h n x k).2.2 ≤ 8 * ys.length + n + 24 := by
  by_cases h0 : k < 0 ∨ 24 < k
  · unfold wbitsF
    rw [if_pos h0]
    exact ⟨hh, hn, Nat.le_add_right _ _⟩
  · obtain ⟨q, rfl⟩ : ∃ q : Nat, k = q := ⟨k.toNat, by omega⟩
    rw [wbitsF_at ys h n q x (by omega)]
    have := wAt_ok ys h n x q hh
    refine ⟨this.1, this.2.1, ?_⟩
    rw [this.2.2]
    omega

set_option maxHeartbeats 400000 in
theorem vbits_no (W : World) (g : Nat) (x k : Int) (hk : k < 0 ∨ 24 < k) :
    Calls Try.prog 30 #[.pointer (some ⟨g, 0, none⟩), .int .i64 x, .int .i64 k] W fun e W' => e = .returned (.tuple #[]) ∧ W' = W := by
  by_cases h0 : k < 0
  · have k0 : decide (k < 0) = true := decide_eq_true h0
    clear hk
    go_enter Try.func30, Try.ntmps30
    go_wp2
    first | go_end0 | ((try simp only [Exit.inBlock, Exit.then]); refine bodyPost_ret (results_none rfl _ _ _) rfl ?_)
    exact ⟨rfl, rfl⟩
  · have k0 : decide (k < 0) = false := decide_eq_false h0
    have k1 : decide (24 < k) = true := decide_eq_true (by omega)
    clear hk
    go_enter Try.func30, Try.ntmps30
    go_wp2
    first | go_end0 | ((try simp only [Exit.inBlock, Exit.then]); refine bodyPost_ret (results_none rfl _ _ _) rfl ?_)
    exact ⟨rfl, rfl⟩
theorem vbits_calls (W : World) (B g : Nat) (v : Value) (ys : List Int) (h n : Nat) (x k : Int) (hI : IsV W g v ((8 * ys.length + n : Nat) : Int)) (hR : Row W B v (wpadF ys h n)) (hB : B ≤ W.heap.size) (hn : n ≤ 7) (hh : h < 2 ^ n) (hx : ys.length ≤ 1000000000000) :
    Calls Try.prog 30 #[.pointer (some ⟨g, 0, none⟩), .int .i64 x, .int .i64 k] W fun e W' => e = .returned (.tuple #[]) ∧ ∃ v', VPost W W' B g v v' (wbitsF ys h n x k).1 (wbitsF ys h n x k).2.1 (wbitsF ys h n x k).2.2 := by
  by_cases hk : k < 0 ∨ 24 < k
  · unfold wbitsF
    rw [if_pos hk]
    refine (vbits_no W g x k hk).mono ?_
    rintro e w' ⟨rfl, rfl⟩
    exact ⟨rfl, v, hI, hR, Fr.refl _ _, .inl rfl⟩
  · obtain ⟨q, rfl⟩ : ∃ q : Nat, k = q := ⟨k.toNat, by omega⟩
    rw [wbitsF_at ys h n q x (by omega)]
    exact vbits_yes W B g v ys h n q x hI hR hB hn hh (by omega) hx

/-- Both writers, made since W. -/
structure BW (W w : World) (v u : Value) (ys : List Int) (h n : Nat) (zs : List Int) (h2 n2 : Nat) : Prop where
  w1 : IsW w W.heap.size v h n
  r1 : Row w W.heap.size v ys
  w2 : IsV w (W.heap.size + 1) u ((8 * zs.length + n2 : Nat) : Int)
  r2 : Row w W.heap.size u (wpadF zs h2 n2)
  ap : ∀ b, v.ownBlock = some b → u.ownBlock ≠ some b
  bel : Below W.heap.size W w
namespace BW
variable {W w w' : World} {v u : Value} {ys zs : List Int} {h n h2 n2 : Nat}
theorem byN (s : BW W w v u ys h n zs h2 n2) (hf : Fr (fun _ => False) w w') : BW W w' v u ys h n zs h2 n2 :=
  ⟨hf.blk s.w1 (fun e => e), hf.own s.r1 (fun _ _ e => e), hf.blk s.w2 (fun e => e), hf.own s.r2 (fun _ _ e => e), s.ap, s.bel.trans (hf.to_below (fun _ _ _ e => e) s.bel.size)⟩
theorem byW {v' : Value} {ys' : List Int} {h' n' : Nat} (s : BW W w v u ys h n zs h2 n2) (hP : WPost w w' W.heap.size W.heap.size v v' ys' h' n') : BW W w' v' u ys' h' n' zs h2 n2 := by
  refine ⟨hP.st, hP.row, hP.blk s.r1 s.w2 (by decide) (by omega), hP.fr.own s.r2 (fun k hk e => ?_), fun b hb hu => ?_, s.bel.trans ((hP.frB s.r1 (Nat.le_refl _)).to_below (fun k hk _ => by omega) s.bel.size)⟩
  · rcases e with rfl | e
    · exact row_ne s.r2 s.w1 (by decide) hk.symm
    · exact s.ap k e hk
  · rcases hP.at_ with h5 | ⟨b', h5, h6⟩
    · exact s.ap b (h5.symm.trans hb) hu
    · rw [h5] at hb
      cases hb
      exact Nat.not_lt.2 h6 (own_lt s.r2 _ hu)
theorem byV {u' : Value} {zs' : List Int} {h' n' : Nat} (s : BW W w v u ys h n zs h2 n2) (hP : VPost w w' W.heap.size (W.heap.size + 1) u u' zs' h' n') : BW W w' v u' ys h n zs' h' n' := by
  refine ⟨hP.fr.blk s.w1 (fun e => ?_), hP.fr.own s.r1 (fun k hk e => ?_), hP.st, hP.row, fun b hb hu => ?_, s.bel.trans ((hP.fr.mono (T := fun b => W.heap.size ≤ b) (fun k _ e => ?_)).to_below (fun k hk _ => by omega) s.bel.size)⟩
  · rcases e with e | e
    · omega
    · exact row_ne s.r2 s.w1 (by decide) e.symm
  · rcases e with rfl | e
    · exact row_ne s.r1 s.w2 (by decide) hk.symm
    · exact s.ap k hk e
  · rcases hP.at_ with h5 | ⟨b', h5, h6⟩
    · exact s.ap b hb (h5.symm.trans hu)
    · rw [h5] at hu
      cases hu
      exact Nat.not_lt.2 h6 (own_lt s.r1 _ hb)
  · rcases e with rfl | e
    · omega
    · exact own_base s.r2 k e
end BW
theorem bw_bits {W w : World} {v u : Value} {ys zs : List Int} {h n h2 n2 : Nat} (s : BW W w v u ys h n zs h2 n2) (hn : n ≤ 7) (hh : h < 2 ^ n) (hx : ys.length ≤ 1000000000000) (x k : Int) :
    Calls Try.prog 29 #[.pointer (some ⟨W.heap.size, 0, none⟩), .int .i64 x, .int .i64 k] w fun e w' => e = .returned (.tuple #[]) ∧ ∃ v', BW W w' v' u (wbitsF ys h n x k).1 (wbitsF ys h n x k).2.1 (wbitsF ys h n x k).2.2 zs h2 n2 := by
  refine (wbits_calls w W.heap.size W.heap.size v ys h n x k s.w1 s.r1 s.bel.size hn hh hx).mono ?_
  rintro e w' ⟨rfl, v', hP⟩
  exact ⟨rfl, v', s.byW hP⟩
theorem bv_bits {W w : World} {v u : Value} {ys zs : List Int} {h n h2 n2 : Nat} (s : BW W w v u ys h n zs h2 n2) (hn : n2 ≤ 7) (hh : h2 < 2 ^ n2) (hx : zs.length ≤ 1000000000000) (x k : Int) :
    Calls Try.prog 30 #[.pointer (some ⟨W.heap.size + 1, 0, none⟩), .int .i64 x, .int .i64 k] w fun e w' => e = .returned (.tuple #[]) ∧ ∃ u', BW W w' v u' ys h n (wbitsF zs h2 n2 x k).1 (wbitsF zs h2 n2 x k).2.1 (wbitsF zs h2 n2 x k).2.2 := by
  refine (vbits_calls w W.heap.size (W.heap.size + 1) u zs h2 n2 x k s.w2 s.r2 s.bel.size hn hh hx).mono ?_
  rintro e w' ⟨rfl, v', hP⟩
  exact ⟨rfl, v', s.byV hP⟩
theorem bw_text {W w : World} {v u : Value} {ys zs : List Int} {h n h2 n2 : Nat} (s : BW W w v u ys h n zs h2 n2) (hn : n ≤ 7) (hh : h < 2 ^ n) (hx : ys.length ≤ 1000000000000) :
    Calls Try.prog 31 #[.pointer (some ⟨W.heap.size, 0, none⟩)] w fun e w' => e = .returned (.string (wtextF ys h n)) ∧ BW W w' v u ys h n zs h2 n2 := by
  refine (wtext_calls w W.heap.size W.heap.size v ys h n s.w1 s.r1 hn hh hx).mono ?_
  rintro e w' ⟨rfl, hf⟩
  exact ⟨rfl, s.byN hf⟩
theorem bv_text {W w : World} {v u : Value} {ys zs : List Int} {h n h2 n2 : Nat} (s : BW W w v u ys h n zs h2 n2) :
    Calls Try.prog 32 #[.pointer (some ⟨W.heap.size + 1, 0, none⟩)] w fun e w' => e = .returned (.string (wtextF zs h2 n2)) ∧ BW W w' v u ys h n zs h2 n2 := by
  refine (vtext_calls w W.heap.size (W.heap.size + 1) u _ _ s.w2 s.r2).mono ?_
  rintro e w' ⟨rfl, rfl⟩
  exact ⟨rfl, s⟩
theorem bw_start (W : World) : BW W ((W.alloc (.cells #[.slice none 0 0, .int .i64 0, .int .i64 0] 77)).alloc (.cells #[.slice none 0 0, .int .i64 0] 45)) (.slice none 0 0) (.slice none 0 0) [] 0 0 [] 0 0 := by
  have hs : (W.alloc (.cells #[.slice none 0 0, .int .i64 0, .int .i64 0] 77)).heap.size = W.heap.size + 1 := by simp
  refine ⟨(heap_alloc_old _ _ (by rw [hs]; omega)).trans (heap_alloc_new W _), World.ownsRow_nil _ _ _ _, ?_, World.ownsRow_nil _ _ _ _, fun b hb => (by cases hb), ((Fr.refl (fun _ => False) W).alloc _).alloc _ |>.to_below (fun _ _ _ e => e) (Nat.le_refl _)⟩
  unfold IsV
  rw [← hs]
  exact heap_alloc_new _ _
end Go.Proofs.Ytpldapjcojjicaa.B
