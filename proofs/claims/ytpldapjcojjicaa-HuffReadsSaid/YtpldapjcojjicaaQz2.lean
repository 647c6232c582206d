/- Layer 2 (huff): the document's Codes, in plain Lean: they tell what Codes tells. Joined of texts: Layer 2 (huff): the document's sum and Check, in plain Lean: they tell what Check tells. -/
import Derived.Test.YtpldapjcojjicaaRc
import Derived.Test.YtpldapjcojjicaaCo
namespace Go.Proofs.Ytpldapjcojjicaa.Pure
open Go.RowKit Go.Proofs.Ytpldapjcojjicaa.Pl Go.Proofs.Ytpldapjcojjicaa.B Go.Proofs.YtpldapjcojjicaaW.PrintWords Go.Proofs.YtpldapjcojjicaaW.PrintLast Go.Proofs.YtpldapjcojjicaaW.PrintMore
set_option linter.unusedVariables false
set_option linter.unusedSimpArgs false

theorem w64 (n : Int) (h : -9223372036854775808 ≤ n ∧ n ≤ 9223372036854775807) : wrap64 n = n := by unfold wrap64; omega
theorem rd_mid (pre : List Int) (x : Int) (r : List Int) : rd (pre ++ x :: r) (pre.length : Int) = x := by
  unfold rd
  simp
theorem shl15 (x : Int) (h0 : 0 < x) (h1 : x ≤ 15) : shl .i64 1 (wrap64 (15 - x)) = 2 ^ (15 - x.toNat) := by
  have : x = 1 ∨ x = 2 ∨ x = 3 ∨ x = 4 ∨ x = 5 ∨ x = 6 ∨ x = 7 ∨ x = 8 ∨ x = 9 ∨ x = 10 ∨ x = 11 ∨ x = 12 ∨ x = 13 ∨ x = 14 ∨ x = 15 := by omega
  rcases this with h | h | h | h | h | h | h | h | h | h | h | h | h | h | h <;> (subst h; decide +kernel)
theorem pow_le15 (k : Nat) : (0 : Int) < 2 ^ (15 - k) ∧ (2 : Int) ^ (15 - k) ≤ 32768 := by
  rw [pow_cast]
  have h1 := Nat.two_pow_pos (15 - k)
  have h2 : (2 : Nat) ^ (15 - k) ≤ 2 ^ 15 := Nat.pow_le_pow_right (by omega) (by omega)
  omega
/-- How much of all codes lengths take. -/
def sumS : List Int → Int
  | [] => 0
  | x :: r => (if 0 < x then 2 ^ (15 - x.toNat) else 0) + sumS r
/-- How many lengths are not 0. -/
def sumM : List Int → Int
  | [] => 0
  | x :: r => (if 0 < x then 1 else 0) + sumM r
/-- The greatest of t and the lengths. -/
def sumX (t : Int) : List Int → Int
  | [] => t
  | x :: r => sumX (if 0 < x then mx t x else t) r
def Good (l : List Int) : Prop := ∀ x ∈ l, 0 ≤ x ∧ x ≤ 15
theorem sumS_bd : ∀ l : List Int, 0 ≤ sumS l ∧ sumS l ≤ 32768 * l.length
  | [] => by simp [sumS]
  | x :: r => by
    have ih := sumS_bd r
    have hp := pow_le15 x.toNat
    unfold sumS
    rw [List.length_cons]
    split <;> omega
theorem sumM_bd : ∀ l : List Int, 0 ≤ sumM l ∧ sumM l ≤ l.length
  | [] => by simp [sumM]
  | x :: r => by
    have ih := sumM_bd r
    unfold sumM
    rw [List.length_cons]
    split <;> omega
theorem sum_go : ∀ (rest pre : List Int) (k : Nat) (n m t : Int), Good rest → rest.length < k → pre.length + rest.length ≤ 1000 → 0 ≤ n → n ≤ 32768 * pre.length → 0 ≤ m → m ≤ pre.length →
    vitrineref02_sum.l0 k (pre ++ rest) n m t pre.length = some (n + sumS rest, m + sumM rest, sumX t rest)
  | [], pre, k, n, m, t, hg, hk, hl, hn, hn2, hm, hm2 => by
    obtain ⟨k, rfl⟩ : ∃ j, k = j + 1 := ⟨k - 1, by simp at hk; omega⟩
    unfold vitrineref02_sum.l0
    simp [sumS, sumM, sumX]
  | x :: r, pre, k, n, m, t, hg, hk, hl, hn, hn2, hm, hm2 => by
    rw [List.length_cons] at hk hl
    obtain ⟨k, rfl⟩ : ∃ j, k = j + 1 := ⟨k - 1, by omega⟩
    have hx := hg x List.mem_cons_self
    have hp := pow_le15 x.toNat
    unfold vitrineref02_sum.l0
    have e1 : ((pre ++ x :: r).length : Int) = pre.length + r.length + 1 := by simp; omega
    rw [if_pos (by rw [e1]; omega), if_pos (by omega), rd_mid]
    have e2 : wrap64 ((pre.length : Int) + 1) = ((pre ++ [x]).length : Nat) := by rw [w64 _ (by omega)]; simp
    have e3 : pre ++ x :: r = (pre ++ [x]) ++ r := by simp
    have hl2 : (pre ++ [x]).length = pre.length + 1 := by simp
    unfold sumS sumM sumX
    split
    · rename_i h0
      have h0' : (0 : Int) < x := h0
      rw [if_pos (by rw [w64 _ (by omega)]; omega), shl15 x h0' hx.2, w64 (n + _) (by omega), w64 (m + 1) (by omega), e2, e3, sum_go r (pre ++ [x]) k _ _ _ (fun y hy => hg y (List.mem_cons_of_mem _ hy)) (by omega) (by omega) (by omega) (by omega) (by omega) (by omega)]
      simp only [if_pos h0', Int.add_assoc]
    · rename_i h0
      have h0' : ¬ (0 : Int) < x := h0
      rw [e2, e3, sum_go r (pre ++ [x]) k _ _ _ (fun y hy => hg y (List.mem_cons_of_mem _ hy)) (by omega) (by omega) (by omega) (by omega) (by omega) (by omega)]
      simp only [if_neg h0', Int.zero_add]
theorem sum_is (l : List Int) (k : Nat) (hg : Good l) (hl : l.length ≤ 1000) (hk : l.length < k) : vitrineref02_sum.f k l = some (sumS l, sumM l, sumX 0 l) := by
  have h := sum_go l [] k 0 0 0 hg hk (by simpa using hl) (by omega) (by simp) (by omega) (by simp)
  unfold vitrineref02_sum.f
  simpa using h
/-- The answer behind the sums. -/
def tellS (n m t : Int) : Int := if 32768 < n then 10 else if n < 32768 ∧ 0 < m ∧ ¬ (m = 1 ∧ t = 1) then 11 else 0
theorem badLen_iff (x : Int) : badLen x = false ↔ 0 ≤ x ∧ x ≤ 15 := by
  unfold badLen
  simp
theorem check_go : ∀ (rest pre : List Int) (k : Nat), (pre ++ rest).length ≤ 1000 → Good pre → (pre ++ rest).length + 1 + rest.length < k →
    vitrineref02_Check.l0 k (pre ++ rest) pre.length = some (if rest.any badLen = true then 1 else tellS (sumS (pre ++ rest)) (sumM (pre ++ rest)) (sumX 0 (pre ++ rest)))
  | [], pre, k, hl, hg, hk => by
    obtain ⟨k, rfl⟩ : ∃ j, k = j + 1 := ⟨k - 1, by omega⟩
    rw [List.append_nil] at *
    unfold vitrineref02_Check.l0
    simp only [List.length_nil] at hk
    rw [if_neg (by omega), sum_is pre k hg hl (by omega)]
    simp only [Option.bind_some, List.any_nil, Bool.false_eq_true, if_false]
    unfold tellS
    repeat' split
    all_goals first | rfl | (exfalso; omega)
  | x :: r, pre, k, hl, hg, hk => by
    have e1 : ((pre ++ x :: r).length : Int) = pre.length + r.length + 1 := by simp; omega
    have e1' : (pre ++ x :: r).length = pre.length + r.length + 1 := by simp; omega
    rw [List.length_cons] at hk
    obtain ⟨k, rfl⟩ : ∃ j, k = j + 1 := ⟨k - 1, by omega⟩
    unfold vitrineref02_Check.l0
    rw [if_pos (by rw [e1]; omega), if_pos (by omega), rd_mid]
    have e2 : wrap64 ((pre.length : Int) + 1) = ((pre ++ [x]).length : Nat) := by rw [w64 _ (by omega)]; simp
    have e3 : pre ++ x :: r = (pre ++ [x]) ++ r := by simp
    rw [List.any_cons]
    by_cases hb : badLen x = true
    · rw [hb, Bool.true_or, if_pos rfl]
      have : ¬ (0 ≤ x ∧ x ≤ 15) := fun h => by rw [(badLen_iff x).2 h] at hb; cases hb
      by_cases h0 : x < 0
      · rw [if_pos h0]
      · rw [if_neg h0, if_pos (by omega)]
    · have hb' : badLen x = false := by simpa using hb
      have hx := (badLen_iff x).1 hb'
      rw [hb', Bool.false_or, if_neg (by omega), if_neg (by omega), e2, e3]
      refine check_go r (pre ++ [x]) k (by rw [← e3]; exact hl) (fun y hy => ?_) (by rw [← e3]; omega)
      rcases List.mem_append.1 hy with hy | hy
      · exact hg y hy
      · simp at hy
        subst hy
        exact hx
theorem check_is0 (l : List Int) (k : Nat) (hk : 2 * l.length + 1 < k) : vitrineref02_Check.f k l = some (if 288 < l.length ∨ l.any badLen = true then 1 else tellS (sumS l) (sumM l) (sumX 0 l)) := by
  unfold vitrineref02_Check.f
  by_cases hl : 288 < l.length
  · rw [if_pos (by omega), if_pos (.inl hl)]
  · rw [if_neg (by omega)]
    have h := check_go l [] k (by simp; omega) (fun y hy => by cases hy) (by simp; omega)
    simp only [List.nil_append, List.length_nil] at h
    rw [show (0 : Int) = ((0 : Nat) : Int) from rfl, h]
    simp [hl]

/-! The tally tells the same sums. -/
theorem kraft_set (n : List Int) (j : Nat) (hj : j < n.length) : ∀ m, kraft (n.set j (n.getD j 0 + 1)) m = kraft n m + (if j < m then 2 ^ (15 - j) else 0)
  | 0 => by simp [kraft]
  | m + 1 => by
    unfold kraft
    rw [kraft_set n j hj m, set_getD]
    by_cases h : j = m
    · subst h
      rw [if_neg (by omega), if_pos ⟨rfl, hj⟩, if_pos (by omega), Int.add_mul]
      omega
    · by_cases h2 : j < m
      · rw [if_pos h2, if_neg (fun c => h c.1), if_pos (by omega)]
        omega
      · rw [if_neg h2, if_neg (fun c => h c.1), if_neg (by omega)]
        omega
theorem many_set (n : List Int) (j : Nat) (hj : j < n.length) : ∀ m, manyN (n.set j (n.getD j 0 + 1)) m = manyN n m + (if j < m then 1 else 0)
  | 0 => by simp [manyN]
  | m + 1 => by
    unfold manyN
    rw [many_set n j hj m, set_getD]
    by_cases h : j = m
    · subst h
      rw [if_neg (by omega), if_pos ⟨rfl, hj⟩, if_pos (by omega)]
      omega
    · by_cases h2 : j < m
      · rw [if_pos h2, if_neg (fun c => h c.1), if_pos (by omega)]
        omega
      · rw [if_neg h2, if_neg (fun c => h c.1), if_neg (by omega)]
        omega
/-- How often a length stands. -/
def cnt (y : Int) : List Int → Int
  | [] => 0
  | x :: r => (if x = y then 1 else 0) + cnt y r
theorem sumS_cons (x : Int) (r : List Int) : sumS (x :: r) = (if 0 < x then 2 ^ (15 - x.toNat) else 0) + sumS r := rfl
theorem sumM_cons (x : Int) (r : List Int) : sumM (x :: r) = (if 0 < x then 1 else 0) + sumM r := rfl
theorem cnt_cons (y x : Int) (r : List Int) : cnt y (x :: r) = (if x = y then 1 else 0) + cnt y r := rfl
theorem tally_go : ∀ (l n : List Int), Good l → n.length = 16 →
    kraft (l.foldl tally1 n) 16 = kraft n 16 + sumS l ∧ manyN (l.foldl tally1 n) 16 = manyN n 16 + sumM l ∧ ∀ j : Nat, 0 < j → j < 16 → (l.foldl tally1 n).getD j 0 = n.getD j 0 + cnt j l
  | [], n, hg, hn => by simp [sumS, sumM, cnt]
  | x :: r, n, hg, hn => by
    have hx := hg x List.mem_cons_self
    rw [List.foldl_cons]
    obtain ⟨h1, h2, h3⟩ := tally_go r (tally1 n x) (fun y hy => hg y (List.mem_cons_of_mem _ hy)) (by rw [tally1_len, hn])
    rw [h1, h2, sumS_cons, sumM_cons]
    by_cases h : 0 < x
    · have et : tally1 n x = n.set x.toNat (n.getD x.toNat 0 + 1) := if_pos h
      rw [et] at h3 ⊢
      rw [kraft_set n _ (by omega), many_set n _ (by omega), if_pos h, if_pos h, if_pos (by omega), if_pos (by omega)]
      refine ⟨by omega, by omega, fun j hj hj2 => ?_⟩
      rw [h3 j hj hj2, set_getD, cnt_cons]
      by_cases hc : x = (j : Int)
      · rw [if_pos ⟨by omega, by omega⟩, if_pos hc, hc, Int.toNat_natCast]
        omega
      · rw [if_neg (fun c => hc (by omega)), if_neg hc]
        omega
    · have et : tally1 n x = n := if_neg h
      rw [et] at h3 ⊢
      rw [if_neg h, if_neg h]
      refine ⟨by omega, by omega, fun j hj hj2 => ?_⟩
      rw [h3 j hj hj2, cnt_cons, if_neg (by omega)]
      omega
theorem tally_is (l : List Int) (hg : Good l) : kraft (tally l) 16 = sumS l ∧ manyN (tally l) 16 = sumM l ∧ ∀ j : Nat, 0 < j → j < 16 → (tally l).getD j 0 = cnt j l := by
  have h := tally_go l (List.replicate 16 0) hg (by simp)
  have h1 : kraft (List.replicate 16 0) 16 = 0 := by decide
  have h2 : manyN (List.replicate 16 0) 16 = 0 := by decide
  rw [h1, h2] at h
  refine ⟨by unfold tally; omega, by unfold tally; omega, fun j hj hj2 => ?_⟩
  have := h.2.2 j hj hj2
  rw [show (List.replicate 16 (0 : Int)).getD j 0 = 0 from by rw [List.getD_eq_getElem?_getD, List.getElem?_replicate]; split <;> rfl] at this
  unfold tally
  omega
theorem one_max : ∀ (l : List Int), Good l → 0 ≤ cnt 1 l ∧ cnt 1 l ≤ sumM l ∧ ∀ t, 0 ≤ t → (sumM l = 0 → sumX t l = t) ∧ (sumM l = 1 → (0 < cnt 1 l → sumX t l = mx t 1) ∧ (cnt 1 l = 0 → 1 < sumX t l))
  | [], hg => by simp [cnt, sumM, sumX]
  | x :: r, hg => by
    have hx := hg x List.mem_cons_self
    obtain ⟨h0, h1, h2⟩ := one_max r (fun y hy => hg y (List.mem_cons_of_mem _ hy))
    have hb := sumM_bd r
    unfold cnt sumM
    refine ⟨by split <;> omega, by split <;> split <;> omega, fun t ht => ?_⟩
    unfold sumX
    by_cases hp : 0 < x
    · simp only [if_pos hp]
      refine ⟨fun h => absurd h (by omega), fun h => ?_⟩
      have hr : sumM r = 0 := by omega
      have hm : 0 ≤ mx t x := by unfold mx; split <;> omega
      rw [(h2 (mx t x) hm).1 hr]
      refine ⟨fun hc => ?_, fun hc => ?_⟩
      · by_cases hx1 : x = 1
        · rw [hx1]
        · rw [if_neg hx1] at hc
          omega
      · have hx1 : x ≠ 1 := fun hx1 => by rw [if_pos hx1] at hc; omega
        unfold mx
        split <;> omega
    · have hx1 : x ≠ 1 := by omega
      simp only [if_neg hp, if_neg hx1, Int.zero_add]
      exact h2 t ht
theorem good_of {l : List Int} (h : l.any badLen = false) : Good l := fun x hx => by
  have := List.any_eq_false.1 h x hx
  exact (badLen_iff x).1 (by simpa using this)
theorem checkF_is (l : List Int) : checkF l = if 288 < l.length ∨ l.any badLen = true then 1 else tellS (sumS l) (sumM l) (sumX 0 l) := by
  unfold checkF
  by_cases hb : 288 < l.length ∨ l.any badLen = true
  · rw [if_pos hb, if_pos hb]
  · rw [if_neg hb, if_neg hb]
    have hg : Good l := good_of (by cases h : l.any badLen; rfl; exact absurd (.inr h) hb)
    obtain ⟨h1, h2, h3⟩ := tally_is l hg
    have h3 := h3 1 (by omega) (by omega)
    obtain ⟨h4, h5, h6⟩ := one_max l hg
    have h6 := (h6 0 (by omega)).2
    rw [h1, h2, h3]
    unfold tellS
    have hc1 : cnt ((1 : Nat) : Int) l = cnt 1 l := rfl
    rw [hc1]
    split
    · rfl
    · by_cases hm : sumM l = 1
      · obtain ⟨h7, h8⟩ := h6 hm
        have hmx : mx 0 1 = 1 := by decide
        rw [hmx] at h7
        by_cases hc : cnt 1 l = 0
        · have := h8 hc
          split <;> split <;> first | rfl | (exfalso; omega)
        · have := h7 (by omega)
          split <;> split <;> first | rfl | (exfalso; omega)
      · split <;> split <;> first | rfl | (exfalso; omega)
theorem check_is (l : List Int) (k : Nat) (hk : 2 * l.length + 1 < k) : vitrineref02_Check.f k l = some (checkF l) := by
  rw [check_is0 l k hk, checkF_is]
end Go.Proofs.Ytpldapjcojjicaa.Pure

namespace Go.Proofs.Ytpldapjcojjicaa.Pure
open Go.RowKit Go.Proofs.Ytpldapjcojjicaa.Pl Go.Proofs.Ytpldapjcojjicaa.B Go.Proofs.YtpldapjcojjicaaW.PrintWords Go.Proofs.YtpldapjcojjicaaW.PrintLast Go.Proofs.YtpldapjcojjicaaW.PrintMore
set_option linter.unusedVariables false
set_option linter.unusedSimpArgs false

theorem shl_is (x : Int) (m : Nat) (hm : m ≤ 20) (h0 : 0 ≤ x) (h1 : x ≤ 100000000) : shl .i64 x (m : Int) = x * 2 ^ m := by
  unfold shl
  have e : min ((m : Int).toNat) IntKind.i64.bits = m := by
    rw [Int.toNat_natCast]
    exact Nat.min_eq_left (Nat.le_trans hm (by decide))
  rw [e]
  have hp : (2 : Nat) ^ m ≤ 2 ^ 20 := Nat.pow_le_pow_right (by omega) hm
  have hp0 := Nat.two_pow_pos m
  rw [pow_cast]
  have h3 : x * ((2 ^ m : Nat) : Int) ≤ 100000000 * 1048576 := Int.mul_le_mul h1 (by omega) (by omega) (by omega)
  have h4 : 0 ≤ x * ((2 ^ m : Nat) : Int) := Int.mul_nonneg h0 (by omega)
  rw [i64_w]
  exact w64 _ (by omega)
theorem cnt_app (y : Int) : ∀ (a b : List Int), cnt y (a ++ b) = cnt y a + cnt y b
  | [], b => by simp [cnt]
  | x :: r, b => by rw [List.cons_append, cnt_cons, cnt_cons, cnt_app y r b]; omega
theorem cnt_bd (y : Int) : ∀ l : List Int, 0 ≤ cnt y l ∧ cnt y l ≤ l.length
  | [] => by simp [cnt]
  | x :: r => by
    have := cnt_bd y r
    rw [cnt_cons, List.length_cons]
    split <;> omega
/-- What is told for the lengths up to m: F is the first code of each length, pre are the lengths ahead. -/
def upto (F : List Int) (m : Int) : List Int → List Int → List Int
  | _, [] => []
  | pre, x :: r => (if 0 < x ∧ x ≤ m then F.getD x.toNat 0 + cnt x pre else 0) :: upto F m (pre ++ [x]) r
theorem upto_cons (F : List Int) (m : Int) (pre : List Int) (x : Int) (r : List Int) : upto F m pre (x :: r) = (if 0 < x ∧ x ≤ m then F.getD x.toNat 0 + cnt x pre else 0) :: upto F m (pre ++ [x]) r := rfl
theorem upto_len (F : List Int) (m : Int) : ∀ (r pre : List Int), (upto F m pre r).length = r.length
  | [], _ => rfl
  | x :: r, pre => by rw [upto_cons, List.length_cons, List.length_cons, upto_len F m r]
theorem upto_app (F : List Int) (m : Int) : ∀ (a pre b : List Int), upto F m pre (a ++ b) = upto F m pre a ++ upto F m (pre ++ a) b
  | [], pre, b => by rw [List.append_nil, List.nil_append]; rfl
  | x :: r, pre, b => by rw [List.cons_append, upto_cons, upto_cons, upto_app F m r, List.cons_append, List.append_assoc]; rfl
theorem upto_zero (F : List Int) : ∀ (r pre : List Int), upto F 0 pre r = List.replicate r.length 0
  | [], _ => rfl
  | x :: r, pre => by rw [upto_cons, if_neg (by omega), upto_zero F r, List.length_cons, List.replicate_succ]
theorem set_mid (a b : List Int) (x v : Int) : (a ++ x :: b).set a.length v = a ++ v :: b := by
  rw [List.set_append_right _ _ (Nat.le_refl _), Nat.sub_self]
  rfl
/-! Codes. -/
theorem codes_go (F : List Int) : ∀ (r pre nx done : List Int), Good r → done.length = pre.length → nx.length = 16 → (∀ y : Nat, 0 < y → y < 16 → nx.getD y 0 = F.getD y 0 + cnt y pre) →
    codesGo r pre.length nx (done ++ List.replicate r.length 0) = done ++ upto F 15 pre r
  | [], pre, nx, done, hg, hd, hn, hF => by simp [codesGo, upto]
  | x :: r, pre, nx, done, hg, hd, hn, hF => by
    have hx := hg x List.mem_cons_self
    have hg' : Good r := fun y hy => hg y (List.mem_cons_of_mem _ hy)
    have hl : (pre ++ [x]).length = pre.length + 1 := by simp
    rw [codesGo_cons, upto_cons, List.length_cons, List.replicate_succ]
    by_cases h0 : 0 < x
    · rw [if_pos h0, if_pos ⟨h0, by omega⟩, ← hd, set_mid, hd, hF x.toNat (by omega) (by omega), ← hl]
      have hc : ((x.toNat : Nat) : Int) = x := by omega
      rw [hc]
      have := codes_go F r (pre ++ [x]) (nx.set x.toNat (F.getD x.toNat 0 + cnt x pre + 1)) (done ++ [F.getD x.toNat 0 + cnt x pre]) hg' (by simp [hd]) (by rw [List.length_set, hn]) (fun y hy hy2 => by
        rw [set_getD, cnt_app, cnt_cons]
        by_cases hxy : x = (y : Int)
        · rw [if_pos ⟨by omega, by omega⟩, if_pos hxy, hxy, Int.toNat_natCast]
          simp [cnt]
          omega
        · rw [if_neg (fun c => hxy (by omega)), if_neg hxy, hF y hy hy2]
          simp [cnt])
      simpa using this
    · rw [if_neg h0, if_neg (fun c => h0 c.1), ← hl]
      have := codes_go F r (pre ++ [x]) nx (done ++ [0]) hg' (by simp [hd]) hn (fun y hy hy2 => by
        rw [cnt_app, cnt_cons, if_neg (by omega), hF y hy hy2]
        simp [cnt])
      simpa using this
theorem firstF_len (n : List Int) : (firstF n).length = 16 := firstK_len n 14
theorem codesL_is (l : List Int) (hg : Good l) : codesL l = upto (firstF (tally l)) 15 [] l := by
  have := codes_go (firstF (tally l)) l [] (firstF (tally l)) [] hg rfl (firstF_len _) (fun y _ _ => by simp [cnt])
  simpa [codesL] using this
theorem firstK_hi (n : List Int) : ∀ k j, k + 1 < j → (firstK n k).getD j 0 = 0
  | 0, j, h => by
    unfold firstK
    rw [List.getD_eq_getElem?_getD, List.getElem?_replicate]
    split <;> rfl
  | k + 1, j, h => by
    unfold firstK fstep
    rw [set_getD, if_neg (by omega)]
    exact firstK_hi n k j (by omega)
theorem firstK_step (n : List Int) : ∀ k, k ≤ 14 → (firstK n k).getD 1 0 = 0 ∧ ∀ j, j + 1 ≤ k → (firstK n k).getD (j + 2) 0 = ((firstK n k).getD (j + 1) 0 + n.getD (j + 1) 0) * 2
  | 0, h => ⟨by simp [firstK], fun j hj => by omega⟩
  | k + 1, h => by
    obtain ⟨h1, h2⟩ := firstK_step n k (by omega)
    have hl := firstK_len n k
    unfold firstK fstep
    refine ⟨by rw [set_getD, if_neg (by omega)]; exact h1, fun j hj => ?_⟩
    rw [set_getD, set_getD]
    by_cases hc : k + 2 = j + 2
    · rw [if_pos ⟨hc, by omega⟩, if_neg (by omega), show k + 2 - 1 = j + 1 by omega]
    · rw [if_neg (by omega), if_neg (by omega)]
      exact h2 j (by omega)
theorem firstF_one (n : List Int) : (firstF n).getD 1 0 = 0 := (firstK_step n 14 (by omega)).1
theorem firstF_step (n : List Int) (j : Nat) (hj : j ≤ 13) : (firstF n).getD (j + 2) 0 = ((firstF n).getD (j + 1) 0 + n.getD (j + 1) 0) * 2 := (firstK_step n 14 (by omega)).2 j (by omega)

/-! The document's codes. -/
/-- What the document keeps: the last code told and its length; v is what the next code of length n would be. -/
def Keeps (code was : Int) (n : Nat) (v : Int) : Prop := (was = 0 ∧ code = 0 ∧ v = 0) ∨ ∃ w : Nat, was = (w : Int) ∧ 0 < w ∧ w ≤ n ∧ 0 ≤ code ∧ (code + 1) * 2 ^ (n - w) = v
theorem Keeps.told {code was : Int} {n : Nat} {v : Int} (h : Keeps code was n v) (hn : 0 < n) (hn2 : n ≤ 15) (hv : v ≤ 20000000) :
    (0 < was → 0 ≤ wrap64 ((n : Int) - was) ∧ shl .i64 (wrap64 (code + 1)) (wrap64 ((n : Int) - was)) = v) ∧ (¬ 0 < was → code = v) ∧ Keeps v n n (v + 1) := by
  rcases h with ⟨rfl, rfl, rfl⟩ | ⟨w, rfl, h1, h2, h3, h4⟩
  · exact ⟨fun h => by omega, fun _ => rfl, .inr ⟨n, rfl, hn, Nat.le_refl _, by omega, by simp⟩⟩
  · have hp := Nat.two_pow_pos (n - w)
    have hle : code + 1 ≤ v := by
      rw [← h4, pow_cast]
      have : (code + 1) * 1 ≤ (code + 1) * ((2 ^ (n - w) : Nat) : Int) := Int.mul_le_mul_of_nonneg_left (by omega) (by omega)
      omega
    have e1 : (n : Int) - (w : Int) = ((n - w : Nat) : Int) := by omega
    refine ⟨fun _ => ⟨by rw [w64 _ (by omega)]; omega, ?_⟩, fun h => absurd h (by omega), .inr ⟨n, rfl, hn, Nat.le_refl _, by omega, by simp⟩⟩
    rw [w64 (code + 1) (by omega), w64 _ (by omega), e1, shl_is _ _ (by omega) (by omega) (by omega), h4]
theorem Keeps.next {code was : Int} {n : Nat} {v : Int} (h : Keeps code was n v) : Keeps code was (n + 1) (v * 2) := by
  rcases h with ⟨rfl, rfl, rfl⟩ | ⟨w, rfl, h1, h2, h3, h4⟩
  · exact .inl ⟨rfl, rfl, rfl⟩
  · refine .inr ⟨w, rfl, h1, by omega, h3, ?_⟩
    rw [show n + 1 - w = (n - w) + 1 by omega, Int.pow_succ, ← Int.mul_assoc, h4]
theorem ref_in (F : List Int) (n : Nat) (hn : 0 < n) (hn2 : n ≤ 15) (hF : ∀ j : Nat, j ≤ 15 → F.getD j 0 ≤ 19660800) : ∀ (r pre : List Int) (k : Nat) (code was : Int), pre.length + r.length ≤ 288 → Keeps code was n (F.getD n 0 + cnt n pre) →
    ∃ code' was', Keeps code' was' n (F.getD n 0 + cnt n (pre ++ r)) ∧
      vitrineref02_Codes.l1 (k + r.length + 1) (pre ++ r) (upto F n [] pre ++ upto F (n - 1 : Int) pre r) code was n pre.length = vitrineref02_Codes.l0 k (pre ++ r) (upto F n [] (pre ++ r)) code' was' (wrap64 ((n : Int) + 1))
  | [], pre, k, code, was, hl, hK => by
    refine ⟨code, was, by simpa using hK, ?_⟩
    rw [List.append_nil, show upto F ((n : Int) - 1) pre [] = [] from rfl, List.append_nil]
    show (if (pre.length : Int) < (pre.length : Int) then _ else _) = _
    rw [if_neg (by omega)]
    rfl
  | x :: r, pre, k, code, was, hl, hK => by
    rw [List.length_cons] at hl
    have e1 : ((pre ++ x :: r).length : Int) = pre.length + r.length + 1 := by simp; omega
    have hl2 : (pre ++ [x]).length = pre.length + 1 := by simp
    have e2 : wrap64 ((pre.length : Int) + 1) = ((pre ++ [x]).length : Nat) := by rw [w64 _ (by omega)]; simp
    have e3 : pre ++ x :: r = (pre ++ [x]) ++ r := by simp
    have hcb := cnt_bd n pre
    have hFn := hF n (by omega)
    have hcn : cnt n (pre ++ [x]) = cnt n pre + (if x = (n : Int) then 1 else 0) := by rw [cnt_app, cnt_cons]; simp [cnt]
    have hU : upto F n [] (pre ++ [x]) = upto F n [] pre ++ [if 0 < x ∧ x ≤ (n : Int) then F.getD x.toNat 0 + cnt x pre else 0] := by rw [upto_app, List.nil_append]; rfl
    have hlen : (upto F n [] pre).length = pre.length := upto_len _ _ _ _
    rw [upto_cons, List.length_cons, show k + (r.length + 1) + 1 = (k + r.length + 1) + 1 by omega]
    unfold vitrineref02_Codes.l1
    rw [if_pos (by rw [e1]; omega), if_pos (by omega), rd_mid]
    by_cases hx : x = (n : Int)
    · subst hx
      rw [if_pos rfl] at hcn
      obtain ⟨t1, t2, t3⟩ := hK.told hn hn2 (by omega)
      obtain ⟨code', was', h1, h2⟩ := ref_in F n hn hn2 hF r (pre ++ [(n : Int)]) k (F.getD n 0 + cnt n pre) n (by omega) (by rw [hcn, ← Int.add_assoc]; exact t3)
      refine ⟨code', was', by rw [e3]; exact h1, ?_⟩
      have hz : (if 0 < (n : Int) ∧ (n : Int) ≤ (n : Int) - 1 then F.getD ((n : Int)).toNat 0 + cnt n pre else 0) = 0 := if_neg (by omega)
      rw [if_pos rfl, hz]
      have hol : (pre.length : Int) < ((upto F (↑n) [] pre ++ (0 : Int) :: upto F (↑n - 1) (pre ++ [(n : Int)]) r).length : Int) := by
        rw [List.length_append, hlen, List.length_cons]
        omega
      have hset : (upto F (↑n) [] pre ++ (0 : Int) :: upto F (↑n - 1) (pre ++ [(n : Int)]) r).set ((pre.length : Int)).toNat (F.getD n 0 + cnt n pre) = upto F n [] (pre ++ [(n : Int)]) ++ upto F (↑n - 1) (pre ++ [(n : Int)]) r := by
        rw [Int.toNat_natCast, ← hlen, set_mid, hU, if_pos ⟨by omega, by omega⟩, Int.toNat_natCast]
        simp
      by_cases hw : 0 < was
      · obtain ⟨t4, t5⟩ := t1 hw
        rw [if_pos hw, if_pos t4, if_pos hol, t5, hset, e2, e3]
        exact h2
      · rw [if_neg hw, if_pos hol, t2 hw, hset, e2, e3]
        exact h2
    · rw [if_neg hx] at hcn
      obtain ⟨code', was', h1, h2⟩ := ref_in F n hn hn2 hF r (pre ++ [x]) k code was (by omega) (by rw [hcn, Int.add_zero]; exact hK)
      refine ⟨code', was', by rw [e3]; exact h1, ?_⟩
      have hz : (if 0 < x ∧ x ≤ (n : Int) - 1 then F.getD x.toNat 0 + cnt x pre else 0) = (if 0 < x ∧ x ≤ (n : Int) then F.getD x.toNat 0 + cnt x pre else 0) := by
        by_cases hc : 0 < x ∧ x ≤ (n : Int)
        · rw [if_pos hc, if_pos ⟨hc.1, by omega⟩]
        · rw [if_neg hc, if_neg (fun c => hc ⟨c.1, by omega⟩)]
      rw [hz, if_neg hx, e2, e3]
      rw [hU, List.append_assoc (upto F n [] pre), List.singleton_append] at h2
      exact h2
theorem ref_out (l : List Int) (hg : Good l) (hl : l.length ≤ 288) : ∀ (d n k : Nat) (code was : Int), n + d = 16 → 0 < n → Keeps code was n ((firstF (tally l)).getD n 0) →
    vitrineref02_Codes.l0 (k + d * (l.length + 2) + 1) l (upto (firstF (tally l)) (n - 1 : Int) [] l) code was n = some (upto (firstF (tally l)) 15 [] l, 0)
  | 0, n, k, code, was, hn, h0, hK => by
    obtain rfl : n = 16 := by omega
    rw [Nat.zero_mul]
    unfold vitrineref02_Codes.l0
    rw [if_neg (by omega)]
    rfl
  | d + 1, n, k, code, was, hn, h0, hK => by
    have hF : ∀ j : Nat, j ≤ 15 → (firstF (tally l)).getD j 0 ≤ 19660800 := fun j hj => by
      have hb := (firstK_bd (tally l) (fun j => ⟨(tally_bd l j).1, by have := (tally_bd l j).2; omega⟩) 14 j).2
      have hp : (2 : Nat) ^ j ≤ 2 ^ 15 := Nat.pow_le_pow_right (by omega) hj
      have : (firstF (tally l)).getD j 0 + 600 ≤ 600 * ((2 ^ j : Nat) : Int) := hb
      omega
    rw [show k + (d + 1) * (l.length + 2) + 1 = ((k + d * (l.length + 2) + 1) + l.length + 1) + 1 by rw [Nat.succ_mul]; omega]
    unfold vitrineref02_Codes.l0
    rw [if_pos (by omega)]
    obtain ⟨code', was', h1, h2⟩ := ref_in (firstF (tally l)) n h0 (by omega) hF l [] (k + d * (l.length + 2) + 1) code was (by simp; omega) (by simpa [cnt] using hK)
    simp only [List.nil_append, List.length_nil, upto] at h2 h1
    rw [show (0 : Int) = ((0 : Nat) : Int) from rfl, h2, w64 _ (by omega), show ((n : Int) + 1) = ((n + 1 : Nat) : Int) by omega]
    by_cases hd : d = 0
    · subst hd
      obtain rfl : n = 15 := by omega
      rw [Nat.zero_mul]
      unfold vitrineref02_Codes.l0
      rw [if_neg (by omega)]
      rfl
    · have := ref_out l hg hl d (n + 1) k code' was' (by omega) (by omega) (by
        obtain ⟨m, rfl⟩ : ∃ m, n = m + 1 := ⟨n - 1, by omega⟩
        rw [firstF_step _ m (by omega), (tally_is l hg).2.2 (m + 1) (by omega) (by omega)]
        exact h1.next)
      rw [show ((n + 1 : Nat) : Int) - 1 = (n : Int) by omega] at this
      exact this
theorem codes_is (l : List Int) (k : Nat) (hk : 15 * (l.length + 2) + 1 ≤ k) : vitrineref02_Codes.f k l = some (codesF l) := by
  unfold vitrineref02_Codes.f
  rw [check_is l k (by omega)]
  simp only [Option.bind_some]
  unfold codesF
  by_cases hc : checkF l = 0
  · obtain ⟨hl, hb⟩ := checkF_ok hc
    have hg := good_of hb
    rw [if_pos hc, if_pos hc, if_pos (by omega), if_pos (by rw [Int.toNat_natCast]; omega), Int.toNat_natCast, codesL_is l hg]
    obtain ⟨j, rfl⟩ : ∃ j, k = j + 15 * (l.length + 2) + 1 := ⟨k - (15 * (l.length + 2) + 1), by omega⟩
    have h := ref_out l hg hl 15 1 j 0 0 (by omega) (by omega) (.inl ⟨rfl, rfl, firstF_one _⟩)
    rw [show ((1 : Nat) : Int) - 1 = 0 from rfl, upto_zero] at h
    exact h
  · rw [if_neg hc, if_neg hc]
end Go.Proofs.Ytpldapjcojjicaa.Pure
