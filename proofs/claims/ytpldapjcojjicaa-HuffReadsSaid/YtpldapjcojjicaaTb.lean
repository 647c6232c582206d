/- Layer 2 (huff): tables in plain Lean: the symbols by rising code; what the table's Next tells is what the document's tells. -/
import Derived.Test.YtpldapjcojjicaaQz2
import Derived.Test.YtpldapjcojjicaaMk4
import Derived.Test.YtpldapjcojjicaaNx
namespace Go.Proofs.Ytpldapjcojjicaa.Pure
open Go.RowKit Go.Proofs.Ytpldapjcojjicaa.B Go.Proofs.YtpldapjcojjicaaW.PrintWords Go.Proofs.YtpldapjcojjicaaW.PrintLast Go.Proofs.YtpldapjcojjicaaW.PrintMore
set_option linter.unusedVariables false
set_option linter.unusedSimpArgs false

/-- The symbols of one length. -/
def lenGo (y : Int) : List Int → Nat → List Nat
  | [], _ => []
  | x :: r, i => if x = y then i :: lenGo y r (i + 1) else lenGo y r (i + 1)
/-- The symbols by rising code. -/
def symL (l : List Int) : List Nat := isort (symKey l) (symGo l 0)
/-- The symbols of lengths up to m. -/
def byLen (l : List Int) : Nat → List Nat
  | 0 => []
  | m + 1 => byLen l m ++ lenGo ((m + 1 : Nat) : Int) l 0
theorem lenGo_cons (y x : Int) (r : List Int) (i : Nat) : lenGo y (x :: r) i = if x = y then i :: lenGo y r (i + 1) else lenGo y r (i + 1) := rfl
theorem lenGo_len (y : Int) : ∀ (l : List Int) (i : Nat), ((lenGo y l i).length : Int) = cnt y l
  | [], _ => rfl
  | x :: r, i => by
    have ih := lenGo_len y r (i + 1)
    rw [lenGo_cons, cnt_cons]
    split
    · rw [List.length_cons]; omega
    · omega
theorem symGo_len : ∀ (l : List Int) (i : Nat), ((symGo l i).length : Int) = sumM l
  | [], _ => rfl
  | x :: r, i => by
    have ih := symGo_len r (i + 1)
    rw [symGo_cons, sumM_cons]
    split
    · rw [List.length_cons]; omega
    · omega
theorem symL_len (l : List Int) : ((symL l).length : Int) = sumM l := by
  unfold symL
  rw [isort_length]
  exact symGo_len l 0
theorem lenGo_mem (y : Int) : ∀ (l : List Int) (i x : Nat), x ∈ lenGo y l i → i ≤ x ∧ x < i + l.length ∧ l.getD (x - i) 0 = y
  | [], i, x, h => by cases h
  | z :: r, i, x, h => by
    rw [lenGo_cons] at h
    rw [List.length_cons]
    have hr : x ∈ lenGo y r (i + 1) → i ≤ x ∧ x < i + (r.length + 1) ∧ (z :: r).getD (x - i) 0 = y := fun h => by
      obtain ⟨h1, h2, h3⟩ := lenGo_mem y r (i + 1) x h
      refine ⟨by omega, by omega, ?_⟩
      rw [show x - i = (x - (i + 1)) + 1 by omega]
      exact h3
    split at h
    · rename_i hz
      rcases List.mem_cons.1 h with rfl | h
      · refine ⟨Nat.le_refl _, by omega, ?_⟩
        rw [Nat.sub_self]
        exact hz
      · exact hr h
    · exact hr h
/-- Of all symbols with codes those of one length. -/
theorem symGo_filter (l : List Int) (y : Int) : ∀ (r pre : List Int), l = pre ++ r → (symGo r pre.length).filter (fun x => symKey l x == y) = if 0 < y then lenGo y r pre.length else []
  | [], pre, h => by simp [symGo, lenGo]
  | x :: r, pre, h => by
    have hl2 : (pre ++ [x]).length = pre.length + 1 := by simp
    have ih := symGo_filter l y r (pre ++ [x]) (by rw [h]; simp)
    rw [hl2] at ih
    have hk : symKey l pre.length = x := by
      unfold symKey
      rw [h, Nat.mod_eq_of_lt (by simp), List.getD_eq_getElem?_getD]
      simp
    rw [symGo_cons, lenGo_cons]
    by_cases h0 : 0 < x
    · rw [if_pos h0, List.filter_cons, hk, ih]
      by_cases hxy : x = y
      · subst hxy
        simp [h0]
      · simp [hxy]
    · rw [if_neg h0, ih]
      by_cases hy : 0 < y
      · rw [if_pos hy, if_pos hy, if_neg (by omega)]
      · rw [if_neg hy, if_neg hy]
theorem lenGo_filter (l : List Int) (n y : Int) : (lenGo n l 0).filter (fun x => symKey l x == y) = if n = y then lenGo n l 0 else [] := by
  have hk : ∀ x ∈ lenGo n l 0, symKey l x = n := fun x hx => by
    obtain ⟨_, h2, h3⟩ := lenGo_mem n l 0 x hx
    unfold symKey
    rw [Nat.mod_eq_of_lt (by omega)]
    exact h3
  split
  · rename_i h
    refine List.filter_eq_self.2 (fun x hx => ?_)
    rw [hk x hx, h]
    simp
  · rename_i h
    refine List.filter_eq_nil_iff.2 (fun x hx => ?_)
    rw [hk x hx]
    simpa using h
theorem byLen_filter (l : List Int) (y : Int) : ∀ m : Nat, (byLen l m).filter (fun x => symKey l x == y) = if 0 < y ∧ y ≤ (m : Int) then lenGo y l 0 else []
  | 0 => by rw [if_neg (by omega)]; rfl
  | m + 1 => by
    unfold byLen
    rw [List.filter_append, byLen_filter l y m, lenGo_filter]
    by_cases h : ((m + 1 : Nat) : Int) = y
    · subst h
      rw [if_neg (by omega), if_pos rfl, if_pos (by omega), List.nil_append]
    · rw [if_neg h, List.append_nil]
      by_cases h2 : 0 < y ∧ y ≤ (m : Int)
      · rw [if_pos h2, if_pos (by omega)]
      · rw [if_neg h2, if_neg (by omega)]
theorem byLen_key (l : List Int) : ∀ (m x : Nat), x ∈ byLen l m → 0 < symKey l x ∧ symKey l x ≤ (m : Int)
  | 0, x, h => by cases h
  | m + 1, x, h => by
    unfold byLen at h
    rcases List.mem_append.1 h with h | h
    · have := byLen_key l m x h
      omega
    · obtain ⟨_, h2, h3⟩ := lenGo_mem _ l 0 x h
      unfold symKey
      rw [Nat.mod_eq_of_lt (by omega)]
      rw [Nat.sub_zero] at h3
      rw [h3]
      omega
theorem byLen_srt (l : List Int) : ∀ m : Nat, Srt (symKey l) (byLen l m)
  | 0 => List.Pairwise.nil
  | m + 1 => by
    unfold byLen
    refine List.pairwise_append.2 ⟨byLen_srt l m, ?_, fun x hx y hy => ?_⟩
    · have hk : ∀ x ∈ lenGo ((m + 1 : Nat) : Int) l 0, symKey l x = ((m + 1 : Nat) : Int) := fun x hx => by
        obtain ⟨_, h2, h3⟩ := lenGo_mem _ l 0 x hx
        unfold symKey
        rw [Nat.mod_eq_of_lt (by omega)]
        exact h3
      generalize lenGo ((m + 1 : Nat) : Int) l 0 = q at hk
      induction q with
      | nil => exact List.Pairwise.nil
      | cons a q ih =>
        refine List.pairwise_cons.2 ⟨fun b hb => ?_, ih fun x hx => hk x (List.mem_cons_of_mem _ hx)⟩
        rw [hk a List.mem_cons_self, hk b (List.mem_cons_of_mem _ hb)]
        exact Int.le_refl _
    · have h1 := byLen_key l m x hx
      obtain ⟨_, h2, h3⟩ := lenGo_mem _ l 0 y hy
      have h4 : symKey l y = ((m + 1 : Nat) : Int) := by
        unfold symKey
        rw [Nat.mod_eq_of_lt (by omega)]
        exact h3
      rw [h4]
      omega
theorem symL_is (l : List Int) (hg : Good l) : symL l = byLen l 15 := by
  unfold symL
  refine (isort_unique (byLen_srt l 15) (fun y => ?_)).symm
  have hf := symGo_filter l y l [] rfl
  rw [List.length_nil] at hf
  rw [byLen_filter, hf]
  by_cases h : 0 < y
  · rw [if_pos h]
    by_cases h2 : y ≤ 15
    · rw [if_pos ⟨h, h2⟩]
    · rw [if_neg (by omega)]
      have : cnt y l = 0 := by
        have : ∀ r : List Int, Good r → cnt y r = 0 := fun r hr => by
          induction r with
          | nil => rfl
          | cons a r ih =>
            have ha := hr a List.mem_cons_self
            rw [cnt_cons, if_neg (by omega), ih fun z hz => hr z (List.mem_cons_of_mem _ hz)]
            rfl
        exact this l hg
      have hz : (lenGo y l 0).length = 0 := by
        have := lenGo_len y l 0
        omega
      rw [List.eq_nil_of_length_eq_zero hz]
  · rw [if_neg h, if_neg (by omega)]
theorem byLen_len (l : List Int) (hg : Good l) : ∀ m : Nat, m ≤ 15 → ((byLen l m).length : Int) = seenF (tally l) m
  | 0, _ => rfl
  | m + 1, h => by
    have ih := byLen_len l hg m (by omega)
    unfold byLen seenF
    rw [List.length_append, (tally_is l hg).2.2 (m + 1) (by omega) (by omega)]
    have := lenGo_len ((m + 1 : Nat) : Int) l 0
    omega
theorem byLen_app (l : List Int) : ∀ d m : Nat, ∃ r, byLen l (m + d) = byLen l m ++ r
  | 0, m => ⟨[], by simp⟩
  | d + 1, m => by
    obtain ⟨r, hr⟩ := byLen_app l d m
    refine ⟨r ++ lenGo ((m + d + 1 : Nat) : Int) l 0, ?_⟩
    show byLen l (m + d) ++ lenGo ((m + d + 1 : Nat) : Int) l 0 = _
    rw [hr, List.append_assoc]
/-- The k-th symbol of length n + 1. -/
theorem symL_at (l : List Int) (hg : Good l) (n k : Nat) (hn : n < 15) (hk : k < (lenGo ((n + 1 : Nat) : Int) l 0).length) : (symL l)[(byLen l n).length + k]? = (lenGo ((n + 1 : Nat) : Int) l 0)[k]? := by
  rw [symL_is l hg]
  obtain ⟨r, hr⟩ := byLen_app l (14 - n) (n + 1)
  rw [show n + 1 + (14 - n) = 15 by omega] at hr
  rw [hr, show byLen l (n + 1) = byLen l n ++ lenGo ((n + 1 : Nat) : Int) l 0 from rfl, List.append_assoc, List.getElem?_append_right (by omega), Nat.add_sub_cancel_left, List.getElem?_append_left hk]

theorem findX_is (F : List Int) (n k : Nat) (hn : 0 < n) (hn2 : n ≤ 15) : ∀ (r pre : List Int) (i : Nat), Good r →
    findX n (F.getD n 0 + (k : Int)) r (upto F 15 pre r) i = if cnt n pre ≤ (k : Int) then (lenGo n r i)[((k : Int) - cnt n pre).toNat]? else none
  | [], pre, i, hg => by simp [findX, lenGo]
  | x :: r, pre, i, hg => by
    have hx := hg x List.mem_cons_self
    have hg' : Good r := fun y hy => hg y (List.mem_cons_of_mem _ hy)
    have ih := findX_is F n k hn hn2 r (pre ++ [x]) (i + 1) hg'
    rw [cnt_app, cnt_cons] at ih
    have hz : cnt (n : Int) ([] : List Int) = 0 := rfl
    have h0 := (cnt_bd n pre).1
    by_cases hxn : x = (n : Int)
    · rw [if_pos hxn, hz] at ih
      have hu : (if 0 < x ∧ x ≤ 15 then F.getD x.toNat 0 + cnt x pre else 0) = F.getD n 0 + cnt n pre := by
        rw [if_pos ⟨by omega, by omega⟩, hxn, Int.toNat_natCast]
      rw [upto_cons, findX_cons, hu, lenGo_cons, if_pos hxn]
      by_cases hk : cnt n pre = (k : Int)
      · rw [if_pos ⟨hxn, by omega⟩, if_pos (by omega), hk, Int.sub_self]
        rfl
      · rw [if_neg (fun c => hk (by omega)), ih]
        by_cases hk2 : cnt n pre ≤ (k : Int)
        · rw [if_pos (by omega), if_pos hk2]
          obtain ⟨j, hj⟩ : ∃ j : Nat, (k : Int) - cnt n pre = ((j + 1 : Nat) : Int) := ⟨((k : Int) - cnt n pre).toNat - 1, by omega⟩
          have e : (k : Int) - (cnt n pre + (1 + 0)) = (j : Int) := by omega
          rw [hj, e, Int.toNat_natCast, Int.toNat_natCast, List.getElem?_cons_succ]
        · rw [if_neg (by omega), if_neg hk2]
    · rw [if_neg hxn, hz, Int.add_zero, Int.add_zero] at ih
      rw [upto_cons, findX_cons, if_neg (fun c => hxn c.1), ih, lenGo_cons, if_neg hxn]

/-! Next. -/
theorem next_is (l : List Int) (hg : Good l) : ∀ (r n : Nat) (code start seen : Int) (d : ByteArray) (h m : Nat), 0 < n → n + r ≤ 16 → h < 2 ^ m → m ≤ 7 →
    start ≤ code → 2 * start = (firstF (tally l)).getD n 0 → seen = seenF (tally l) (n - 1) →
    nextP (tally l) (symL l) r n code start seen d h m = nextX l (upto (firstF (tally l)) 15 [] l) r n code d h m
  | 0, _, _, _, _, _, _, _, _, _, _, _, _, _, _ => rfl
  | r + 1, n, code, start, seen, d, h, m, h0, h1, hh, hm, h2, h3, h4 => by
    have hb := rbitsF_bit d h m hh
    have hok := rbitsF_ok d h m 1 hm hh
    unfold nextP nextX
    by_cases he : (rbitsF d h m 1).2.1 ≠ 0
    · rw [if_pos he, if_pos he]
    · rw [if_neg he, if_neg he]
      generalize rbitsF d h m 1 = q at *
      obtain ⟨b, e, d2, hh2, m2⟩ := q
      simp only at hb hok ⊢
      obtain ⟨k, hk⟩ : ∃ k : Nat, 2 * code + b - 2 * start = (k : Int) := ⟨(2 * code + b - 2 * start).toNat, by omega⟩
      have hN := (tally_is l hg).2.2 n h0 (by omega)
      have hc : 2 * code + b = (firstF (tally l)).getD n 0 + (k : Int) := by omega
      have hf := findX_is (firstF (tally l)) n k h0 (by omega) l [] 0 hg
      rw [show cnt (n : Int) [] = 0 from rfl, if_pos (by omega), Int.sub_zero, Int.toNat_natCast] at hf
      rw [hc, hf]
      have hll := lenGo_len (n : Int) l 0
      have hcs : (firstF (tally l)).getD n 0 + (k : Int) - 2 * start = (k : Int) := by omega
      rw [hcs, hN]
      by_cases hlt : (k : Int) < cnt n l
      · rw [if_pos hlt, List.getElem?_eq_getElem (by omega)]
        obtain ⟨j, rfl⟩ : ∃ j, n = j + 1 := ⟨n - 1, by omega⟩
        have hs := symL_at l hg j k (by omega) (by omega)
        have hbl := byLen_len l hg j (by omega)
        rw [Nat.add_sub_cancel, ← hbl] at h4
        have e2 : (seen + (k : Int)).toNat = (byLen l j).length + k := by omega
        rw [e2, List.getD_eq_getElem?_getD, hs, List.getElem?_eq_getElem (by omega)]
        rfl
      · rw [if_neg hlt, List.getElem?_eq_none (by omega)]
        by_cases hr : r = 0
        · subst hr
          rfl
        · obtain ⟨j, rfl⟩ : ∃ j, n = j + 1 := ⟨n - 1, by omega⟩
          refine next_is l hg r (j + 1 + 1) _ _ _ d2 hh2 m2 (by omega) (by omega) hok.1 hok.2.1 (by omega) ?_ ?_
          · rw [firstF_step _ j (by omega), hN, h3]
            omega
          · rw [h4]
            show _ = seenF (tally l) j + (tally l).getD (j + 1) 0
            rw [hN]
            rfl
/-- How many bits a table looks at. -/
def mostF (l : List Int) : Nat := if (symL l).length < 2 then (symL l).length else 15
theorem sumS_half : ∀ l : List Int, Good l → sumS l ≤ 16384 * sumM l
  | [], _ => by simp [sumS, sumM]
  | x :: r, hg => by
    have hx := hg x List.mem_cons_self
    have ih := sumS_half r fun y hy => hg y (List.mem_cons_of_mem _ hy)
    rw [sumS_cons, sumM_cons]
    split
    · have hp : (2 : Nat) ^ (15 - x.toNat) ≤ 2 ^ 14 := Nat.pow_le_pow_right (by omega) (by omega)
      rw [pow_cast]
      omega
    · omega
/-- How many bits the document's table looks at. -/
def mostX (l : List Int) : Nat := if sumM l = 1 ∧ sumX 0 l = 1 then 1 else if sumM l = 0 then 0 else 15
theorem most_is (l : List Int) (hc : checkF l = 0) : mostF l = mostX l := by
  obtain ⟨hl, hb⟩ := checkF_ok hc
  have hg := good_of hb
  have h1 := symL_len l
  have h2 := sumM_bd l
  have h3 := sumS_half l hg
  rw [checkF_is, if_neg (by simp [hb]; omega)] at hc
  unfold tellS at hc
  unfold mostF mostX
  split at hc
  · cases hc
  · split at hc
    · cases hc
    · rename_i h5 h6
      by_cases hm1 : sumM l = 1
      · have hx : sumX 0 l = 1 := Classical.byContradiction fun c => h6 ⟨by omega, by omega, fun q => c q.2⟩
        rw [if_pos (by omega), if_pos ⟨hm1, hx⟩]
        omega
      · rw [if_neg (fun c : sumM l = 1 ∧ sumX 0 l = 1 => hm1 c.1)]
        by_cases hm0 : sumM l = 0
        · rw [if_pos (show (symL l).length < 2 by omega), if_pos hm0]
          omega
        · rw [if_neg (show ¬ (symL l).length < 2 by omega), if_neg hm0]
theorem mostF_le (l : List Int) : mostF l ≤ 15 := by unfold mostF; split <;> omega
/-- A table's Next tells what the document's tells. -/
theorem next_same (l : List Int) (hc : checkF l = 0) (d : ByteArray) (h m : Nat) (hh : h < 2 ^ m) (hm : m ≤ 7) :
    nextP (tally l) (symL l) (mostF l) 1 0 0 0 d h m = nextX l (codesL l) (mostX l) 1 0 d h m := by
  obtain ⟨hl, hb⟩ := checkF_ok hc
  have hg := good_of hb
  have hle := mostF_le l
  rw [codesL_is l hg, ← most_is l hc]
  exact next_is l hg (mostF l) 1 0 0 0 d h m (by omega) (by omega) hh hm (by omega) (by rw [firstF_one]; rfl) rfl
end Go.Proofs.Ytpldapjcojjicaa.Pure
