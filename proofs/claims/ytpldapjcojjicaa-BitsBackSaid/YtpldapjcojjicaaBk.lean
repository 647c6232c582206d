/- Layer 1 (bits): what was laid is read by the same calls. No walk in this text. -/
import Derived.Test.YtpldapjcojjicaaLw0
import Derived.Test.YtpldapjcojjicaaNum
namespace Go.Proofs.Ytpldapjcojjicaa.B
open Go.RowKit Go.Proofs.YtpldapjcojjicaaW.PrintWords Go.Proofs.YtpldapjcojjicaaW.PrintLast Go.Proofs.YtpldapjcojjicaaW.PrintMore Go.Proofs.Ytpldapjcojjicaa.Pb
set_option linter.unusedVariables false

/-! ### Bits off a reader, where there are enough -/
theorem rbits_good (S d : ByteArray) (h n a q : Nat) (R : Rel S d h n a) (hq : q ≤ 24) (hk : q ≤ 8 * d.size + n) :
    (rbitsF d h n (q : Int)).1 = ((num S / 2 ^ a % 2 ^ q : Nat) : Int) ∧ (rbitsF d h n (q : Int)).2.1 = 0 ∧ Rel S (rbitsF d h n (q : Int)).2.2.1 (rbitsF d h n (q : Int)).2.2.2.1 (rbitsF d h n (q : Int)).2.2.2.2 (a + q) := by
  unfold rbitsF
  rw [if_neg (by omega), if_neg (by omega), Int.toNat_natCast]
  have hp := R.pos
  obtain ⟨r1, r2, r3, j, r4, r5⟩ := rfill_num q q d h n (by omega) (by omega)
  have hlt := rfill_ok q hq d h n R.hh (by have := R.hn; omega) (by have := R.hn; omega) (by omega)
  generalize hF : rfill d h n q = F at *
  obtain ⟨d', h', n'⟩ := F
  simp only at r1 r2 r3 r4 r5 hlt ⊢
  have hp0 := Nat.two_pow_pos q
  have e0 : (2 : Nat) ^ n' = 2 ^ (n' - q) * 2 ^ q := by rw [← Nat.pow_add]; congr 1; omega
  have hX : num S / 2 ^ a = num d' * 2 ^ (n' - q) * 2 ^ q + h' := by rw [R.val, ← r1, e0, Nat.mul_assoc]
  have e1 : num S / 2 ^ a % 2 ^ q = h' % 2 ^ q := by rw [hX, Nat.mul_comm, Nat.mul_add_mod]
  have e2 : num S / 2 ^ (a + q) = num d' * 2 ^ (n' - q) + h' / 2 ^ q := by
    rw [Nat.pow_add, ← Nat.div_div_eq_div_mul, hX, Nat.mul_comm _ (2 ^ q), Nat.mul_add_div hp0]
  refine ⟨by rw [e1], trivial, by have := hlt.2.2.1; clear hX e1 e2; omega, ?_, by have := R.hd; clear hX e1 e2; omega, ?_, by clear hX e1 e2; omega, e2⟩
  · rw [Nat.div_lt_iff_lt_mul hp0, ← e0]
    exact hlt.1
  · have hs : d'.size = d.size - j := by rw [r5, ByteArray.size_extract]; omega
    have hd := R.hd
    rw [r5]
    conv => lhs; rw [R.cut]
    rw [ByteArray.extract_extract, ByteArray.size_extract, ByteArray.size_extract]
    congr 1 <;> omega

/-! ### What was laid, as one number -/
def numZ (xs : List Int) : Nat := numL (xs.map Int.toNat)
def Byt (xs : List Int) : Prop := ∀ x ∈ xs, 0 ≤ x ∧ x < 256
theorem Byt.append {xs ys : List Int} (h : Byt xs) (k : Byt ys) : Byt (xs ++ ys) := fun x hx => by
  rcases List.mem_append.1 hx with hx | hx
  · exact h x hx
  · exact k x hx
theorem Byt.one {b : Nat} (h : b < 256) : Byt [(b : Int)] := fun x hx => by
  rw [List.mem_singleton] at hx
  omega
theorem Byt.bytes (t : ByteArray) : Byt (bytesOf t) := fun x hx => by
  unfold bytesOf at hx
  obtain ⟨y, _, rfl⟩ := List.mem_map.1 hx
  have := y.toNat_lt
  omega
theorem numL_append : ∀ xs ys : List Nat, numL (xs ++ ys) = numL xs + numL ys * 2 ^ (8 * xs.length)
  | [], ys => by simp [numL]
  | b :: r, ys => by
    show b + 256 * numL (r ++ ys) = b + 256 * numL r + numL ys * 2 ^ (8 * (r.length + 1))
    rw [numL_append r ys, show 8 * (r.length + 1) = 8 * r.length + 8 by omega, Nat.pow_add, show (2 : Nat) ^ 8 = 256 from rfl, Nat.mul_add, Nat.add_assoc]
    congr 2
    simp only [Nat.mul_assoc, Nat.mul_comm, Nat.mul_left_comm]
theorem numZ_append (xs ys : List Int) : numZ (xs ++ ys) = numZ xs + numZ ys * 2 ^ (8 * xs.length) := by
  unfold numZ
  rw [List.map_append, numL_append, List.length_map]
theorem numZ_one (b : Nat) : numZ [(b : Int)] = b := by
  unfold numZ
  simp [numL]
theorem numL_lt : ∀ xs : List Nat, (∀ x ∈ xs, x < 256) → numL xs < 2 ^ (8 * xs.length)
  | [], _ => by simp [numL]
  | b :: r, h => by
    have h1 := h b (by simp)
    have h2 := numL_lt r (fun x hx => h x (by simp [hx]))
    show b + 256 * numL r < 2 ^ (8 * (r.length + 1))
    rw [show 8 * (r.length + 1) = 8 * r.length + 8 by omega, Nat.pow_add, show (2 : Nat) ^ 8 = 256 from rfl]
    omega
theorem numZ_lt {xs : List Int} (h : Byt xs) : numZ xs < 2 ^ (8 * xs.length) := by
  have := numL_lt (xs.map Int.toNat) (fun x hx => by
    obtain ⟨y, hy, rfl⟩ := List.mem_map.1 hx
    have := h y hy
    omega)
  rw [List.length_map] at this
  exact this
theorem byt_str {xs : List Int} (h : Byt xs) : byt (strOfNums xs) = xs.map Int.toNat := by
  unfold byt
  rw [strOfNums_data, List.map_map]
  refine List.map_congr_left (fun x hx => ?_)
  have := h x hx
  show (UInt8.ofNat x.toNat).toNat = x.toNat
  rw [UInt8.toNat_ofNat']
  omega
theorem num_str {xs : List Int} (h : Byt xs) : num (strOfNums xs) = numZ xs := by
  unfold num numZ
  rw [byt_str h]
theorem str_bytes (d : ByteArray) : strOfNums (bytesOf d) = d := by
  have h : ∀ l : List UInt8, (l.map fun b => ((b.toNat : Nat) : Int)).map (fun n => UInt8.ofNat n.toNat) = l := by
    intro l
    rw [List.map_map]
    conv => rhs; rw [← List.map_id l]
    refine List.map_congr_left (fun b _ => ?_)
    show UInt8.ofNat ((b.toNat : Nat) : Int).toNat = b
    rw [Int.toNat_natCast, UInt8.ofNat_toNat]
  apply ByteArray.ext
  apply Array.ext'
  exact h d.data.toList

/-- What a writer has laid: how many bits, and which number they are. -/
def tl (s : List Int × Nat × Nat) : Nat := 8 * s.1.length + s.2.2
def vl (s : List Int × Nat × Nat) : Nat := numZ s.1 + s.2.1 * 2 ^ (8 * s.1.length)
structure Laid (s : List Int × Nat × Nat) : Prop where
  hn : s.2.2 ≤ 7
  hh : s.2.1 < 2 ^ s.2.2
  by_ : Byt s.1
theorem vl_lt {s : List Int × Nat × Nat} (h : Laid s) : vl s < 2 ^ tl s := by
  have h1 := numZ_lt h.by_
  have h2 : (s.2.1 + 1) * 2 ^ (8 * s.1.length) ≤ 2 ^ s.2.2 * 2 ^ (8 * s.1.length) := Nat.mul_le_mul_right _ h.hh
  unfold vl tl
  rw [Nat.pow_add, Nat.mul_comm (2 ^ (8 * s.1.length))]
  rw [Nat.add_mul, Nat.one_mul] at h2
  omega
theorem wflush_laid : ∀ (f m : Nat) (xs : List Int) (H : Nat), m ≤ f → Byt xs → Byt (wflush xs H m).1 ∧ vl (wflush xs H m) = numZ xs + H * 2 ^ (8 * xs.length) ∧ ∃ t, (wflush xs H m).1 = xs ++ t := by
  intro f
  induction f with
  | zero =>
    intro m xs H hm hx
    rw [wflush_end (by omega)]
    exact ⟨hx, rfl, [], by simp⟩
  | succ f ih =>
    intro m xs H hm hx
    by_cases c : 8 ≤ m
    · rw [← wflush_go c]
      have hb : H % 256 < 256 := Nat.mod_lt _ (by decide)
      obtain ⟨h1, h2, t, h3⟩ := ih (m - 8) (xs ++ [((H % 256 : Nat) : Int)]) (H / 256) (by omega) (hx.append (Byt.one hb))
      refine ⟨h1, ?_, [((H % 256 : Nat) : Int)] ++ t, by rw [h3, List.append_assoc]⟩
      rw [h2, numZ_append, numZ_one, List.length_append, List.length_singleton, show 8 * (xs.length + 1) = 8 + 8 * xs.length by omega, Nat.pow_add, show (2 : Nat) ^ 8 = 256 from rfl, ← Nat.mul_assoc, Nat.add_assoc, ← Nat.add_mul]
      congr 2
      omega
    · rw [wflush_end c]
      exact ⟨hx, rfl, [], by simp⟩

/-- s' lies on from s. -/
structure Ext (s s' : List Int × Nat × Nat) : Prop where
  pre : ∃ t, s'.1 = s.1 ++ t
  len : tl s ≤ tl s'
  val : vl s' % 2 ^ tl s = vl s
theorem Ext.refl {s : List Int × Nat × Nat} (h : Laid s) : Ext s s := ⟨⟨[], by simp⟩, Nat.le_refl _, Nat.mod_eq_of_lt (vl_lt h)⟩
theorem Ext.trans {a b c : List Int × Nat × Nat} (h : Ext a b) (k : Ext b c) : Ext a c := by
  obtain ⟨t, ht⟩ := h.pre
  obtain ⟨u, hu⟩ := k.pre
  refine ⟨⟨t ++ u, by rw [hu, ht, List.append_assoc]⟩, Nat.le_trans h.len k.len, ?_⟩
  rw [← h.val, ← k.val]
  exact (Nat.mod_mod_of_dvd _ (Nat.pow_dvd_pow 2 h.len)).symm

/-- Bits are laid. -/
theorem bits_laid {s : List Int × Nat × Nat} (h : Laid s) (x : Int) (q : Nat) (hq : q ≤ 24) :
    Laid (wbitsF s.1 s.2.1 s.2.2 x (q : Int)) ∧ tl (wbitsF s.1 s.2.1 s.2.2 x (q : Int)) = tl s + q ∧ vl (wbitsF s.1 s.2.1 s.2.2 x (q : Int)) = vl s + (x % 2 ^ q).toNat * 2 ^ tl s ∧ Ext s (wbitsF s.1 s.2.1 s.2.2 x (q : Int)) := by
  rw [wbitsF_at _ _ _ q x hq]
  have hok := wAt_ok s.1 s.2.1 s.2.2 x q h.hh
  have hl := wflush_laid (s.2.2 + q) (s.2.2 + q) s.1 (s.2.1 + (x % 2 ^ q).toNat * 2 ^ s.2.2) (Nat.le_refl _) h.by_
  have ht : tl (wAt s.1 s.2.1 s.2.2 x q) = tl s + q := by
    unfold tl
    rw [hok.2.2]
    omega
  have hv : vl (wAt s.1 s.2.1 s.2.2 x q) = vl s + (x % 2 ^ q).toNat * 2 ^ tl s := by
    have := hl.2.1
    unfold wAt
    rw [this, Nat.add_mul, Nat.mul_assoc, ← Nat.pow_add, Nat.add_comm s.2.2, ← Nat.add_assoc]
    rfl
  refine ⟨⟨hok.2.1, hok.1, hl.1⟩, ht, hv, hl.2.2, by rw [ht]; exact Nat.le_add_right _ _, ?_⟩
  rw [hv, Nat.add_mul_mod_self_right]
  exact Nat.mod_eq_of_lt (vl_lt h)
theorem pad_len (s : List Int × Nat × Nat) (h : Laid s) : tl s ≤ 8 * (wpadF s.1 s.2.1 s.2.2).length ∧ 8 * (wpadF s.1 s.2.1 s.2.2).length ≤ tl s + 7 := by
  have := h.hn
  unfold wpadF tl
  split
  · omega
  · rw [List.length_append, List.length_singleton]
    omega
theorem pad_num {s : List Int × Nat × Nat} (h : Laid s) : numZ (wpadF s.1 s.2.1 s.2.2) = vl s ∧ Byt (wpadF s.1 s.2.1 s.2.2) ∧ ∃ t, wpadF s.1 s.2.1 s.2.2 = s.1 ++ t := by
  have hp := h.hh
  have hb : s.2.1 < 256 := Nat.lt_of_lt_of_le hp (Nat.le_trans (two_pow_le h.hn) (by decide))
  unfold wpadF vl
  split
  · next h0 =>
    rw [h0] at hp
    have : s.2.1 = 0 := by omega
    rw [this, Nat.zero_mul]
    exact ⟨rfl, h.by_, [], by simp⟩
  · rw [numZ_append, numZ_one]
    exact ⟨rfl, h.by_.append (Byt.one hb), _, rfl⟩
/-- Whole bytes are laid. -/
theorem bytes_laid {s : List Int × Nat × Nat} (h : Laid s) (t : ByteArray) : Laid (wpadF s.1 s.2.1 s.2.2 ++ bytesOf t, 0, 0) ∧ tl (wpadF s.1 s.2.1 s.2.2 ++ bytesOf t, 0, 0) = 8 * (wpadF s.1 s.2.1 s.2.2).length + 8 * t.size ∧ Ext s (wpadF s.1 s.2.1 s.2.2 ++ bytesOf t, 0, 0) := by
  obtain ⟨p1, p2, u, p3⟩ := pad_num h
  obtain ⟨l1, l2⟩ := pad_len s h
  have ht : tl (wpadF s.1 s.2.1 s.2.2 ++ bytesOf t, 0, 0) = 8 * (wpadF s.1 s.2.1 s.2.2).length + 8 * t.size := by
    show 8 * (wpadF s.1 s.2.1 s.2.2 ++ bytesOf t).length + 0 = _
    rw [List.length_append, bytesOf_length]
    omega
  refine ⟨⟨Nat.zero_le _, Nat.one_pos, p2.append (Byt.bytes t)⟩, ht, ⟨u ++ bytesOf t, ?_⟩, by rw [ht]; omega, ?_⟩
  · show wpadF s.1 s.2.1 s.2.2 ++ bytesOf t = _
    rw [p3, List.append_assoc]
  · have hv : vl (wpadF s.1 s.2.1 s.2.2 ++ bytesOf t, 0, 0) = vl s + numZ (bytesOf t) * 2 ^ (8 * (wpadF s.1 s.2.1 s.2.2).length) := by
      show numZ (wpadF s.1 s.2.1 s.2.2 ++ bytesOf t) + 0 * _ = _
      rw [Nat.zero_mul, numZ_append, p1]
      rfl
    obtain ⟨e, he⟩ : ∃ e, 8 * (wpadF s.1 s.2.1 s.2.2).length = e + tl s := ⟨8 * (wpadF s.1 s.2.1 s.2.2).length - tl s, by omega⟩
    rw [hv, he, Nat.pow_add, ← Nat.mul_assoc, Nat.add_mul_mod_self_right]
    exact Nat.mod_eq_of_lt (vl_lt h)

/-! ### The calls, one by one -/
def stp (tx : Bool → Int → Int → ByteArray) (o : S32) (s : List Int × Nat × Nat) : List Int × Nat × Nat :=
  if o.f0 = true then (wpadF s.1 s.2.1 s.2.2 ++ bytesOf (tx true o.f1 o.f2), 0, 0) else wbitsF s.1 s.2.1 s.2.2 o.f2 o.f1
def stAt (tx : Bool → Int → Int → ByteArray) (ops : List S32) : Nat → List Int × Nat × Nat
  | 0 => ([], 0, 0)
  | i + 1 => stp tx (rd_T32 ops (i : Int)) (stAt tx ops i)
theorem stp_ok (tx : Bool → Int → Int → ByteArray) (o : S32) {s : List Int × Nat × Nat} (h : Laid s) : Laid (stp tx o s) ∧ Ext s (stp tx o s) := by
  unfold stp
  split
  · have := bytes_laid h (tx true o.f1 o.f2)
    exact ⟨this.1, this.2.2⟩
  · by_cases h0 : o.f1 < 0 ∨ 24 < o.f1
    · unfold wbitsF
      rw [if_pos h0]
      exact ⟨h, Ext.refl h⟩
    · obtain ⟨q, hq⟩ : ∃ q : Nat, o.f1 = q := ⟨o.f1.toNat, by omega⟩
      rw [hq]
      have := bits_laid h o.f2 q (by omega)
      exact ⟨this.1, this.2.2.2⟩
theorem stAt_laid (tx : Bool → Int → Int → ByteArray) (ops : List S32) : ∀ i, Laid (stAt tx ops i)
  | 0 => ⟨Nat.zero_le _, Nat.one_pos, fun x hx => by cases hx⟩
  | i + 1 => (stp_ok tx _ (stAt_laid tx ops i)).1
theorem stAt_ext (tx : Bool → Int → Int → ByteArray) (ops : List S32) (i : Nat) : ∀ k, Ext (stAt tx ops i) (stAt tx ops (i + k))
  | 0 => Ext.refl (stAt_laid tx ops i)
  | k + 1 => (stAt_ext tx ops i k).trans (stp_ok tx _ (stAt_laid tx ops (i + k))).2
theorem stAt_ext' (tx : Bool → Int → Int → ByteArray) (ops : List S32) {i j : Nat} (h : i ≤ j) : Ext (stAt tx ops i) (stAt tx ops j) := by
  have := stAt_ext tx ops i (j - i)
  rwa [show i + (j - i) = j by omega] at this

/-- The text of all calls. -/
def fin (tx : Bool → Int → Int → ByteArray) (ops : List S32) (m : Nat) : ByteArray := wtextF (stAt tx ops m).1 (stAt tx ops m).2.1 (stAt tx ops m).2.2
theorem fin_num (tx : Bool → Int → Int → ByteArray) (ops : List S32) (m : Nat) : num (fin tx ops m) = vl (stAt tx ops m) ∧ tl (stAt tx ops m) ≤ 8 * (fin tx ops m).size ∧ 8 * (fin tx ops m).size ≤ tl (stAt tx ops m) + 7 := by
  have h := stAt_laid tx ops m
  obtain ⟨p1, p2, _⟩ := pad_num h
  have l := pad_len _ h
  unfold fin wtextF
  rw [num_str p2, p1, strOfNums_size]
  exact ⟨rfl, l⟩
/-- A call for bits reads what it laid. -/
theorem back_bits (tx : Bool → Int → Int → ByteArray) (ops : List S32) (i m : Nat) (him : i < m) (q : Nat) (hq : q ≤ 24) (V : Int) (hop : rd_T32 ops (i : Int) = ⟨false, (q : Int), V⟩) {d : ByteArray} {h n : Nat} (R : Rel (fin tx ops m) d h n (tl (stAt tx ops i))) :
    (rbitsF d h n (q : Int)).1 = V % 2 ^ q ∧ (rbitsF d h n (q : Int)).2.1 = 0 ∧ Rel (fin tx ops m) (rbitsF d h n (q : Int)).2.2.1 (rbitsF d h n (q : Int)).2.2.2.1 (rbitsF d h n (q : Int)).2.2.2.2 (tl (stAt tx ops (i + 1))) := by
  have hl := stAt_laid tx ops i
  obtain ⟨b1, b2, b3, b4⟩ := bits_laid hl V q hq
  have hs : stAt tx ops (i + 1) = wbitsF (stAt tx ops i).1 (stAt tx ops i).2.1 (stAt tx ops i).2.2 V (q : Int) := by
    show stp tx (rd_T32 ops (i : Int)) (stAt tx ops i) = _
    rw [hop]
    rfl
  have he := stAt_ext' tx ops (show i + 1 ≤ m by omega)
  obtain ⟨f1, f2, f3⟩ := fin_num tx ops m
  have hv := he.val
  have hle := he.len
  rw [hs] at hv hle ⊢
  rw [b2] at hv hle ⊢
  rw [b3] at hv
  have hp := R.pos
  obtain ⟨g1, g2, g3⟩ := rbits_good _ d h n _ q R hq (by omega)
  refine ⟨?_, g2, g3⟩
  rw [g1, f1]
  have hlt := vl_lt hl
  have e : vl (stAt tx ops m) / 2 ^ tl (stAt tx ops i) % 2 ^ q = (V % 2 ^ q).toNat := by
    rw [← Nat.mod_mul_right_div_self, ← Nat.pow_add, hv, Nat.add_mul_div_right _ _ (Nat.two_pow_pos _), Nat.div_eq_of_lt hlt, Nat.zero_add]
  rw [e]
  exact (emod_pow V q).1.symm
/-- A call for bytes reads what it laid. -/
theorem back_bytes (tx : Bool → Int → Int → ByteArray) (ops : List S32) (i m : Nat) (him : i < m) (N V : Int) (hop : rd_T32 ops (i : Int) = ⟨true, N, V⟩) {d : ByteArray} {h n : Nat} (R : Rel (fin tx ops m) d h n (tl (stAt tx ops i))) :
    (rbytesF d h n ((tx true N V).size : Int)).1 = tx true N V ∧ (rbytesF d h n ((tx true N V).size : Int)).2.1 = 0 ∧ Rel (fin tx ops m) (rbytesF d h n ((tx true N V).size : Int)).2.2.1 (rbytesF d h n ((tx true N V).size : Int)).2.2.2.1 (rbytesF d h n ((tx true N V).size : Int)).2.2.2.2 (tl (stAt tx ops (i + 1))) := by
  have hl := stAt_laid tx ops i
  have hs : stAt tx ops (i + 1) = (wpadF (stAt tx ops i).1 (stAt tx ops i).2.1 (stAt tx ops i).2.2 ++ bytesOf (tx true N V), 0, 0) := by
    show stp tx (rd_T32 ops (i : Int)) (stAt tx ops i) = _
    rw [hop]
    rfl
  generalize tx true N V = t at *
  obtain ⟨b1, b2, b3⟩ := bytes_laid hl t
  obtain ⟨l1, l2⟩ := pad_len _ hl
  have he := stAt_ext' tx ops (show i + 1 ≤ m by omega)
  obtain ⟨f1, f2, f3⟩ := fin_num tx ops m
  have hlm := stAt_laid tx ops m
  obtain ⟨_, _, u, p3⟩ := pad_num hlm
  obtain ⟨u2, hu2⟩ := he.pre
  have hle := he.len
  rw [hs] at hu2 hle ⊢
  rw [b2] at hle ⊢
  have hpre : wpadF (stAt tx ops m).1 (stAt tx ops m).2.1 (stAt tx ops m).2.2 = wpadF (stAt tx ops i).1 (stAt tx ops i).2.1 (stAt tx ops i).2.2 ++ (bytesOf t ++ (u2 ++ u)) := by
    rw [p3, hu2]
    simp only [List.append_assoc]
  have hp := R.pos
  have hn := R.hn
  have hd := R.hd
  generalize hpd : wpadF (stAt tx ops i).1 (stAt tx ops i).2.1 (stAt tx ops i).2.2 = pd at *
  have hcut : (fin tx ops m).size - d.size = pd.length := by omega
  have hds : t.size ≤ d.size := by omega
  unfold rbytesF
  rw [if_neg (by omega), if_neg (by omega), Int.toNat_natCast]
  have hw := R.whole t.size hds
  rw [hcut] at hw
  refine ⟨?_, rfl, hw⟩
  show d.extract 0 t.size = t
  rw [R.part t.size hds, hcut]
  unfold fin wtextF
  rw [hpre, str_append, str_append, str_bytes]
  have h1 : (strOfNums pd).size = pd.length := strOfNums_size pd
  rw [← h1]
  apply ByteArray.ext
  apply Array.ext'
  rw [ByteArray.data_extract, Array.toList_extract, ByteArray.data_append, ByteArray.data_append, Array.toList_append, Array.toList_append]
  unfold List.extract
  rw [show (strOfNums pd).size = (strOfNums pd).data.toList.length from (Array.length_toList).symm, List.drop_left, Nat.add_sub_cancel_left, show t.size = t.data.toList.length from (Array.length_toList).symm, List.take_left]
/-- Behind all calls less than a byte is left, all bits 0. -/
theorem back_end (tx : Bool → Int → Int → ByteArray) (ops : List S32) (m : Nat) {d : ByteArray} {h n : Nat} (R : Rel (fin tx ops m) d h n (tl (stAt tx ops m))) :
    8 * d.size + n ≤ 7 ∧ (rbitsF d h n ((8 * d.size + n : Nat) : Int)).1 = 0 ∧ (rbitsF d h n ((8 * d.size + n : Nat) : Int)).2.1 = 0 := by
  obtain ⟨f1, f2, f3⟩ := fin_num tx ops m
  have hp := R.pos
  have hle : 8 * d.size + n ≤ 7 := by omega
  obtain ⟨g1, g2, g3⟩ := rbits_good _ d h n _ (8 * d.size + n) R (by omega) (Nat.le_refl _)
  refine ⟨hle, ?_, g2⟩
  rw [g1, f1, Nat.div_eq_of_lt (vl_lt (stAt_laid tx ops m)), Nat.zero_mod]
  rfl
theorem stAt_len (tx : Bool → Int → Int → ByteArray) (htx : ∀ wh N V, (tx wh N V).size ≤ 50) (ops : List S32) : ∀ i, (stAt tx ops i).1.length ≤ 60 * i
  | 0 => Nat.le_refl _
  | i + 1 => by
    have ih := stAt_len tx htx ops i
    have hl := stAt_laid tx ops i
    show (stp tx (rd_T32 ops (i : Int)) (stAt tx ops i)).1.length ≤ _
    unfold stp
    split
    · have := pad_len _ hl
      have h2 := hl.hn
      have h3 := htx true (rd_T32 ops (i : Int)).f1 (rd_T32 ops (i : Int)).f2
      show (wpadF _ _ _ ++ bytesOf _).length ≤ _
      rw [List.length_append, bytesOf_length]
      unfold tl at this
      omega
    · have := (wbitsF_ok (stAt tx ops i).1 (stAt tx ops i).2.1 (stAt tx ops i).2.2 (rd_T32 ops (i : Int)).f2 (rd_T32 ops (i : Int)).f1 hl.hh hl.hn).2.2
      have h2 := hl.hn
      omega
end Go.Proofs.Ytpldapjcojjicaa.B
