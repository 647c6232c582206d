/- Layer 4 (lz): the document's tokens are those that the program's search finds. Plain lists and numbers. -/
import Derived.Test.YtlhgdkaaomdipaaPr2
import Derived.Test.YtlhgdkaaomdipaaTok3
namespace Go.Proofs.Ytlhgdkaaomdipaa.Tok
open Go.RowKit Go.Proofs.YtlhgdkaaomdipaaW.PrintWords Go.Proofs.Ytlhgdkaaomdipaa.Pr
set_option linter.unusedVariables false

theorem w64 (x : Int) (h : -9223372036854775808 ≤ x ∧ x ≤ 9223372036854775807) : wrap64 x = x := by unfold wrap64; omega

/-! ### Three bytes -/
theorem bt_nat (d : ByteArray) (k : Nat) : bt d (k : Int) = if h : k < d.size then ((d[k]'h).toNat : Int) else 0 := by
  unfold bt
  simp
theorem key3_eq {d : ByteArray} {i j : Nat} (hi : i + 3 ≤ d.size) (hj : j + 3 ≤ d.size) : (key3 d j = key3 d i) ↔ (∀ t, t < 3 → bt d ((i + t : Nat) : Int) = bt d ((j + t : Nat) : Int)) := by
  have hl : ∀ m, m + 3 ≤ d.size → key3 d m = [d.data[m]!, d.data[m + 1]!, d.data[m + 2]!] := by
    intro m hm
    have hs : d.data.size = d.size := rfl
    apply List.ext_getElem?
    intro t
    unfold key3
    rw [ByteArray.data_extract]
    simp only [Array.toList_extract, List.extract_eq_take_drop, List.getElem?_take, List.getElem?_drop, Array.getElem?_toList]
    have g : ∀ q, q < d.size → d.data[q]? = some d.data[q]! := fun q hq => by
      have hq' : q < d.data.size := hq
      rw [Array.getElem?_eq_getElem hq', getElem!_pos d.data q hq']
    match t with
    | 0 => simp [g m (by omega)]
    | 1 => simp [g (m + 1) (by omega)]
    | 2 => simp [g (m + 2) (by omega)]
    | t + 3 => simp; omega
  have hb : ∀ m, m < d.size → bt d (m : Int) = ((d.data[m]!).toNat : Int) := by
    intro m hm
    rw [bt_nat, dif_pos hm]
    have hs : m < d.data.size := hm
    rw [getElem!_pos d.data m hs]
    rfl
  have hu : ∀ a b : UInt8, ((a.toNat : Nat) : Int) = ((b.toNat : Nat) : Int) ↔ a = b := by
    intro a b
    rw [Int.natCast_inj, UInt8.toNat_inj]
  rw [hl i hi, hl j hj]
  constructor
  · intro h t ht
    rw [hb _ (by omega), hb _ (by omega), hu]
    simp only [List.cons.injEq, and_true] at h
    match t, ht with
    | 0, _ => exact h.1.symm
    | 1, _ => exact h.2.1.symm
    | 2, _ => exact h.2.2.symm
  · intro h
    have h0 := h 0 (by omega)
    have h1 := h 1 (by omega)
    have h2 := h 2 (by omega)
    rw [hb _ (by omega), hb _ (by omega), hu] at h0 h1 h2
    simp only [List.cons.injEq, and_true]
    exact ⟨h0.symm, h1.symm, h2.symm⟩

theorem mrun_all {d : ByteArray} {i j n : Nat} : ∀ t, n ≤ t → t < mrun d i j n → bt d ((i + t : Nat) : Int) = bt d ((j + t : Nat) : Int) := by
  intro t h1 h2
  by_cases hc : n < 258 ∧ i + n < d.size ∧ bt d ((i + n : Nat) : Int) = bt d ((j + n : Nat) : Int)
  · by_cases e : t = n
    · subst e; exact hc.2.2
    · have hs := mrun_step hc.1 hc.2.1 hc.2.2
      exact mrun_all (n := n + 1) t (by omega) (by rw [hs]; exact h2)
  · rw [mrun_stop hc] at h2
    omega
termination_by 258 - n
/-- A run is as long as it can be. -/
theorem mrun_ge {d : ByteArray} {i j : Nat} (m : Nat) (hm : m ≤ 258) (hi : i + m ≤ d.size) (h : ∀ t, t < m → bt d ((i + t : Nat) : Int) = bt d ((j + t : Nat) : Int)) : ∀ n, n ≤ m → m ≤ mrun d i j n := by
  intro n hn
  by_cases e : n = m
  · subst e; exact (mrun_bd d i j n (by omega) (by omega)).1
  · rw [← mrun_step (by omega) (by omega) (h n (by omega))]
    exact mrun_ge m hm hi h (n + 1) (by omega)
termination_by n => m - n

theorem mrun_key {d : ByteArray} {i j : Nat} (hi : i + 3 ≤ d.size) (hj : j + 3 ≤ d.size) (h : key3 d j = key3 d i) : mrun d i j 0 = mrun d i j 3 := by
  have hk := (key3_eq hi hj).1 h
  rw [← mrun_step (n := 0) (by omega) (by omega) (hk 0 (by omega)), ← mrun_step (n := 1) (by omega) (by omega) (hk 1 (by omega)), ← mrun_step (n := 2) (by omega) (by omega) (hk 2 (by omega))]
theorem mrun_nokey {d : ByteArray} {i j : Nat} (hi : i + 3 ≤ d.size) (hj : j + 3 ≤ d.size) (h : ¬ key3 d j = key3 d i) : mrun d i j 0 < 3 := by
  refine Nat.lt_of_not_le fun h3 => h ((key3_eq hi hj).2 fun t ht => mrun_all (n := 0) t (by omega) (by omega))

/-! ### The document's search -/
/-- m places are still to come, the last ones first. -/
def rfold (d : ByteArray) (i : Nat) : Nat → Nat → Nat → Nat × Nat
  | 0, b, f => (b, f)
  | m + 1, b, f => if i - m ≤ 512 then (if b < mrun d i m 0 then rfold d i m (mrun d i m 0) (i - m) else rfold d i m b f) else (b, f)

theorem rfold_full (d : ByteArray) (i : Nat) (hi : i ≤ d.size) : ∀ m f, rfold d i m 258 f = (258, f)
  | 0, f => rfl
  | m + 1, f => by
    have := mrun_bd d i m 0 (by omega) (by omega)
    unfold rfold
    split
    · rw [if_neg (by omega)]; exact rfold_full d i hi m f
    · rfl
theorem rfold_small (d : ByteArray) (i : Nat) (hi : i ≤ d.size) (h3 : d.size < i + 3) : ∀ m b f, b < 3 → (rfold d i m b f).1 < 3
  | 0, b, f, h => h
  | m + 1, b, f, h => by
    have := mrun_bd d i m 0 (by omega) (by omega)
    unfold rfold
    split
    · split
      · exact rfold_small d i hi h3 m _ _ (by omega)
      · exact rfold_small d i hi h3 m _ _ h
    · exact h

/-- Alike: both too short for a token, or the same. -/
def Like (s t : Nat × Nat) : Prop := (s.1 < 3 ∧ t.1 < 3) ∨ s = t

theorem rfold_far (d : ByteArray) (i : Nat) : ∀ m b f, m ≤ i → 512 < i - m + 1 → rfold d i m b f = (b, f)
  | 0, b, f, _, _ => rfl
  | m + 1, b, f, h1, h2 => by
    unfold rfold
    rw [if_neg (by omega)]
theorem scan_none (d : ByteArray) (i : Nat) : ∀ (l : List Nat) b f, (∀ j ∈ l, 512 < i - j) → scan d i l b f = (b, f)
  | [], _, _, _ => rfl
  | j :: r, b, f, h => scan_far (by have := h j (by simp); omega)

theorem like_scan (d : ByteArray) (i : Nat) (hi : i + 3 ≤ d.size) : ∀ m, m ≤ i → ∀ b f b' f', Like (b, f) (b', f') → b ≤ 258 → Like (rfold d i m b f) (scan d i (posOf d m (key3 d i)).reverse b' f')
  | 0, _, b, f, b', f', h, _ => h
  | m + 1, hm, b, f, b', f', h, hb => by
    have hbd := mrun_bd d i m 0 (by omega) (by omega)
    by_cases hw : i - m ≤ 512
    · by_cases hk : key3 d m = key3 d i
      · have h3 : 3 ≤ mrun d i m 3 := (mrun_bd d i m 3 (by omega) (by omega)).1
        have e0 := mrun_key hi (by omega) hk
        have hl : (posOf d (m + 1) (key3 d i)).reverse = m :: (posOf d m (key3 d i)).reverse := by
          rw [posOf_succ]
          simp [hk, show m + 3 ≤ d.size by omega]
        rw [hl]
        unfold rfold
        rw [if_pos hw, e0]
        rcases h with ⟨h1, h2⟩ | h
        · simp only at h1 h2
          rw [if_pos (by omega), scan_more hw (by omega)]
          split
          · rename_i h258
            rw [h258, rfold_full d i (by omega)]
            exact .inr rfl
          · exact like_scan d i hi m (by omega) _ _ _ _ (.inr rfl) (by omega)
        · cases h
          by_cases hlt : b < mrun d i m 3
          · rw [if_pos hlt, scan_more hw hlt]
            split
            · rename_i h258
              rw [h258, rfold_full d i (by omega)]
              exact .inr rfl
            · exact like_scan d i hi m (by omega) _ _ _ _ (.inr rfl) (by omega)
          · rw [if_neg hlt, scan_same hw hlt]
            split
            · rename_i h258
              rw [h258, rfold_full d i (by omega)]
              exact .inr rfl
            · exact like_scan d i hi m (by omega) _ _ _ _ (.inr rfl) hb
      · have h3 := mrun_nokey hi (by omega) hk
        have hl : (posOf d (m + 1) (key3 d i)).reverse = (posOf d m (key3 d i)).reverse := by
          rw [posOf_succ]
          simp [hk]
        rw [hl]
        unfold rfold
        rw [if_pos hw]
        split
        · rename_i hlt
          refine like_scan d i hi m (by omega) _ _ _ _ (.inl ⟨h3, ?_⟩) (by omega)
          rcases h with ⟨_, h2⟩ | h
          · exact h2
          · cases h
            show b < 3
            omega
        · exact like_scan d i hi m (by omega) _ _ _ _ h hb
    · rw [rfold_far d i (m + 1) b f hm (by omega), scan_none]
      · exact h
      · intro j hj
        have := (posOf_lt (List.mem_reverse.1 hj)).1
        omega

theorem like_best (d : ByteArray) (i : Nat) (hi : i ≤ d.size) : Like (rfold d i i 0 0) (best d i) := by
  unfold best
  split
  · rename_i h
    exact like_scan d i h i (Nat.le_refl _) 0 0 0 0 (.inr rfl) (by omega)
  · rename_i h
    exact .inl ⟨rfold_small d i hi (by omega) i 0 0 (by omega), by simp⟩

end Go.Proofs.Ytlhgdkaaomdipaa.Tok
