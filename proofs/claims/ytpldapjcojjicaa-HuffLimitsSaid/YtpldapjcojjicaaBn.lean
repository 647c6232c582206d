/- Layer 2 (huff): what Limit tells, symbol by symbol: full, no longer than most, the rarer the longer; and with one bit more no more bits. No walk in this text. -/
import Derived.Test.YtpldapjcojjicaaBm
namespace Go.Proofs.Ytpldapjcojjicaa.B
set_option linter.unusedVariables false
set_option linter.unusedSimpArgs false

def cn (s : Nat) : Tr → Int
  | .coin _ t => if t = s then 1 else 0
  | .pair a b => cn s a + cn s b
theorem cn_nonneg (s : Nat) : ∀ t : Tr, 0 ≤ cn s t
  | .coin _ t => by unfold cn; split <;> omega
  | .pair a b => by have := cn_nonneg s a; have := cn_nonneg s b; unfold cn; omega
theorem tot_cn_nonneg (s : Nat) (l : List Tr) : 0 ≤ tot (cn s) l := tot_nonneg fun x _ => cn_nonneg s x
theorem add_cn (s : Nat) : ∀ (t : Tr) (L : List Int), s < L.length → (t.add L).getD s 0 = L.getD s 0 + cn s t
  | .coin _ t, L, h => by
    unfold Tr.add cn
    rw [List.getD_eq_getElem?_getD, List.getElem?_set, List.getD_eq_getElem?_getD]
    by_cases c : t = s
    · subst c; simp [h]
    · simp [c]
  | .pair a b, L, h => by
    unfold Tr.add cn
    rw [add_cn s b _ (by rw [Tr.add_len]; exact h), add_cn s a L h]
    omega
theorem addAll_cn (s : Nat) : ∀ (ts : List Tr) (L : List Int), s < L.length → (addAll ts L).getD s 0 = L.getD s 0 + tot (cn s) ts
  | [], L, h => by simp [addAll, tot]
  | t :: ts, L, h => by
    show (addAll ts (t.add L)).getD s 0 = _
    rw [addAll_cn s ts _ (by rw [Tr.add_len]; exact h), add_cn s t L h, tot_cons]
    omega
def sumI (f : Nat → Int) : Nat → Int
  | 0 => 0
  | n + 1 => sumI f n + f n
/-- The bits that lengths need. -/
def need (L c : List Int) (n : Nat) : Int := sumI (fun j => L.getD j 0 * c.getD j 0) n
theorem need_succ (L c : List Int) (n : Nat) : need L c (n + 1) = need L c n + L.getD n 0 * c.getD n 0 := rfl
theorem need_set (L c : List Int) (s : Nat) (hs : s < L.length) : ∀ n, need (L.set s (L.getD s 0 + 1)) c n = need L c n + if s < n then c.getD s 0 else 0
  | 0 => by simp [need, sumI]
  | n + 1 => by
    have e : (L.set s (L.getD s 0 + 1)).getD n 0 = if s = n then L.getD s 0 + 1 else L.getD n 0 := by
      rw [List.getD_eq_getElem?_getD, List.getElem?_set, List.getD_eq_getElem?_getD]
      by_cases c : s = n
      · subst c; simp [hs]
      · simp [c]
    rw [need_succ, need_succ, need_set L c s hs n, e]
    by_cases h : s = n
    · subst h
      rw [if_pos rfl, if_neg (by omega), if_pos (by omega), Int.add_mul]
      omega
    · rw [if_neg h]
      by_cases h2 : s < n
      · rw [if_pos h2, if_pos (by omega)]; omega
      · rw [if_neg h2, if_neg (by omega)]; omega
/-- A tree of these counts. -/
def Tr.of (c : List Int) : Tr → Prop
  | .coin n s => s < c.length ∧ n = c.getD s 0
  | .pair a b => a.of c ∧ b.of c
theorem add_need (c : List Int) : ∀ (t : Tr) (L : List Int), t.of c → L.length = c.length → need (t.add L) c c.length = need L c c.length + t.wt
  | .coin n s, L, h, hl => by
    obtain ⟨h1, h2⟩ := h
    show need (L.set s (L.getD s 0 + 1)) c _ = _ + n
    rw [need_set L c s (by omega), if_pos h1, h2]
  | .pair a b, L, h, hl => by
    show need (b.add (a.add L)) c _ = _ + (a.wt + b.wt)
    rw [add_need c b _ h.2 (by rw [Tr.add_len]; exact hl), add_need c a L h.1 hl]
    omega
theorem addAll_need (c : List Int) : ∀ (ts : List Tr) (L : List Int), (∀ t ∈ ts, t.of c) → L.length = c.length → need (addAll ts L) c c.length = need L c c.length + tot Tr.wt ts
  | [], L, _, _ => by simp [addAll, tot]
  | t :: ts, L, h, hl => by
    show need (addAll ts (t.add L)) c _ = _
    rw [addAll_need c ts _ (fun x hx => h x (List.mem_cons_of_mem _ hx)) (by rw [Tr.add_len]; exact hl), add_need c t L (h t List.mem_cons_self) hl, tot_cons]
    omega

/-! The coins. -/
theorem coins_cn (s : Nat) : ∀ (c : List Int) (i : Nat), tot (cn s) (coinsFrom c i) = if i ≤ s ∧ 0 < c.getD (s - i) 0 then 1 else 0
  | [], i => by simp [coinsFrom, tot]
  | n :: c, i => by
    rw [coinsFrom_cons]
    have ih := coins_cn s c (i + 1)
    by_cases hs : i = s
    · subst hs
      rw [if_neg (by omega)] at ih
      rw [Nat.sub_self]
      by_cases h : 0 < n
      · rw [if_pos h, tot_cons, ih, if_pos ⟨by omega, h⟩]
        simp [cn]
      · rw [if_neg h, ih, if_neg (fun c => h c.2)]
    · have e : (i + 1 ≤ s ∧ 0 < c.getD (s - (i + 1)) 0) ↔ (i ≤ s ∧ 0 < (n :: c).getD (s - i) 0) := by
        by_cases hle : i + 1 ≤ s
        · rw [show s - i = (s - (i + 1)) + 1 by omega]
          simp only [List.getD_cons_succ]
          constructor <;> rintro ⟨_, h⟩ <;> exact ⟨by omega, h⟩
        · constructor <;> rintro ⟨h, _⟩ <;> omega
      have ih2 : tot (cn s) (coinsFrom c (i + 1)) = if i ≤ s ∧ 0 < (n :: c).getD (s - i) 0 then 1 else 0 := by rw [ih]; simp only [e]
      by_cases h : 0 < n
      · rw [if_pos h, tot_cons, ih2]
        simp [cn, hs]
      · rw [if_neg h, ih2]
theorem coins_in : ∀ (c : List Int) (i j : Nat), j < c.length → 0 < c.getD j 0 → Tr.coin (c.getD j 0) (i + j) ∈ coinsFrom c i
  | [], i, j, h, _ => by simp at h
  | n :: c, i, 0, h, h0 => by
    have h0' : 0 < n := h0
    rw [coinsFrom_cons, if_pos h0']
    exact List.mem_cons_self
  | n :: c, i, j + 1, h, h0 => by
    rw [coinsFrom_cons]
    have := coins_in c (i + 1) j (by simpa using h) (by simpa using h0)
    rw [show i + (j + 1) = i + 1 + j by omega]
    split
    · exact List.mem_cons_of_mem _ this
    · exact this
theorem coins_of (c : List Int) (t : Tr) (h : t ∈ coinsOf c) : ∃ s, s < c.length ∧ 0 < c.getD s 0 ∧ t = .coin (c.getD s 0) s := by
  obtain ⟨k, h1, h2, h3, h4⟩ := coinsFrom_mem c 0 t h
  exact ⟨k, by omega, h3, h4⟩
/-- The coins by rising count. -/
def csOf (c : List Int) : List Tr := isort Tr.wt (coinsOf c)
theorem cs_len (c : List Int) : (csOf c).length = (coinsOf c).length := isort_length _ _
theorem cs_srt (c : List Int) : Srt Tr.wt (csOf c) := isort_srt _ _
theorem cs_of (c : List Int) (t : Tr) (h : t ∈ csOf c) : ∃ s, s < c.length ∧ 0 < c.getD s 0 ∧ t = .coin (c.getD s 0) s := coins_of c t ((isort_mem _ _ _).1 h)
theorem cs_pos (c : List Int) : ∀ t ∈ csOf c, 0 < t.wt := fun t h => by
  obtain ⟨s, _, h2, rfl⟩ := cs_of c t h
  exact h2
theorem cs_rank (c : List Int) (s : Nat) (hs : s < c.length) (h : 0 < c.getD s 0) : ∃ r, ∃ hr : r < (csOf c).length, (csOf c)[r] = .coin (c.getD s 0) s := by
  have h1 := coins_in c 0 s hs h
  rw [Nat.zero_add] at h1
  have h2 : Tr.coin (c.getD s 0) s ∈ csOf c := (isort_mem _ _ _).2 h1
  exact List.getElem_of_mem h2
theorem cs_cn (c : List Int) (s : Nat) : tot (cn s) (csOf c) = if 0 < c.getD s 0 then 1 else 0 := by
  unfold csOf
  rw [tot_isort]
  unfold coinsOf
  rw [coins_cn]
  simp
theorem mem_tot (s : Nat) : ∀ (l : List Tr) (x : Tr), x ∈ l → cn s x ≤ tot (cn s) l
  | y :: l, x, h => by
    rw [tot_cons]
    rcases List.mem_cons.1 h with rfl | h
    · have := tot_cn_nonneg s l; omega
    · have := mem_tot s l x h; have := cn_nonneg s y; omega
theorem tot_split (f : Tr → Int) (l : List Tr) (a : Nat) : tot f (l.take a) + tot f (l.drop a) = tot f l := by
  rw [← tot_app, List.take_append_drop]
theorem cs_take (c : List Int) (s r : Nat) (hr : r < (csOf c).length) (h0 : 0 < c.getD s 0) (h : (csOf c)[r] = .coin (c.getD s 0) s) (a : Nat) : tot (cn s) ((csOf c).take a) = if r < a then 1 else 0 := by
  have h1 := tot_split (cn s) (csOf c) a
  rw [cs_cn, if_pos h0] at h1
  have h2 := tot_cn_nonneg s ((csOf c).take a)
  have h3 := tot_cn_nonneg s ((csOf c).drop a)
  have hcn : cn s (Tr.coin (c.getD s 0) s) = 1 := by simp [cn]
  by_cases hra : r < a
  · rw [if_pos hra]
    have hm : Tr.coin (c.getD s 0) s ∈ (csOf c).take a := List.mem_take_iff_getElem.2 ⟨r, by omega, h⟩
    have := mem_tot s _ _ hm
    omega
  · rw [if_neg hra]
    have hm : Tr.coin (c.getD s 0) s ∈ (csOf c).drop a := List.mem_drop_iff_getElem.2 ⟨r - a, by omega, by rw [← h]; congr 1; omega⟩
    have := mem_tot s _ _ hm
    omega
theorem cs_none (c : List Int) (s : Nat) (h0 : ¬ 0 < c.getD s 0) (a : Nat) : tot (cn s) ((csOf c).take a) = 0 := by
  have h1 := tot_split (cn s) (csOf c) a
  rw [cs_cn, if_neg h0] at h1
  have h2 := tot_cn_nonneg s ((csOf c).take a)
  have h3 := tot_cn_nonneg s ((csOf c).drop a)
  omega
theorem zeros_get (c : List Int) (s : Nat) : (zerosOf c).getD s 0 = 0 := by
  unfold zerosOf
  rw [List.getD_eq_getElem?_getD, List.getElem?_replicate]
  split <;> rfl
theorem zeros_len (c : List Int) : (zerosOf c).length = c.length := by simp [zerosOf]
theorem zeros_need (c : List Int) : ∀ n, need (zerosOf c) c n = 0
  | 0 => rfl
  | n + 1 => by rw [need_succ, zeros_need c n, zeros_get]; omega
theorem sum_over (r : Nat) : ∀ az : List Nat, (az.map fun a => if r < a then (1 : Int) else 0).sum = over r az
  | [] => rfl
  | a :: az => by
    rw [List.map_cons, List.sum_cons, sum_over r az, over_cons]
    split <;> simp <;> omega
theorem sum_zero {f : Nat → Int} (h : ∀ a, f a = 0) : ∀ az : List Nat, (az.map f).sum = 0
  | [] => rfl
  | a :: az => by rw [List.map_cons, List.sum_cons, sum_zero h az, h]; rfl

/-- What Limit's lengths are: of the ranks. -/
structure Ranks (m : Nat) (c l : List Int) (az : List Nat) : Prop where
  len : l.length = c.length
  az_len : az.length = m + 1
  desc : az.Pairwise (· ≥ ·)
  all : ∀ a ∈ az, a ≤ (csOf c).length
  full : sumN (fun i => 2 ^ (az.length - over i az)) (csOf c).length = 2 ^ az.length
  at_ : ∀ s r, (hr : r < (csOf c).length) → 0 < c.getD s 0 → s < c.length → (csOf c)[r] = .coin (c.getD s 0) s → l.getD s 0 = over r az
  none : ∀ s, s < c.length → ¬ 0 < c.getD s 0 → l.getD s 0 = 0
  cost : need l c c.length = tot Tr.wt ((rowsF (csOf c) m).take (2 * (csOf c).length - 2))
theorem rows_of (c : List Int) (m : Nat) : ∀ t ∈ rowsF (csOf c) m, t.of c :=
  rows_all _ (fun t h => by obtain ⟨s, h1, h2, rfl⟩ := cs_of c t h; exact ⟨h1, rfl⟩) (fun a b ha hb => ⟨ha, hb⟩) m
theorem enough (c : List Int) (m : Nat) (h2 : (csOf c).length ≤ 2 ^ (m + 1)) : 2 * (csOf c).length - 2 ≤ (rowsF (csOf c) m).length := by
  have := rows_enough (csOf c) (m + 1) h2 m (Nat.le_refl _)
  rw [show m + 1 - m = 1 by omega] at this
  omega
theorem ranks_is (c : List Int) (m : Nat) (h1 : 2 ≤ (csOf c).length) (h2 : (csOf c).length ≤ 2 ^ (m + 1)) : ∃ az, Ranks m c (addAll ((rowsF (csOf c) m).take (2 * (csOf c).length - 2)) (zerosOf c)) az := by
  have hk := enough c m h2
  obtain ⟨a, r, i1, i2, i3, i4, i5, i6⟩ := rows_cut (csOf c) (cs_srt c) (cs_pos c) m _ hk
  have hget : ∀ s, s < c.length → (addAll ((rowsF (csOf c) m).take (2 * (csOf c).length - 2)) (zerosOf c)).getD s 0 = ((a :: r).map fun x => tot (cn s) ((csOf c).take x)).sum := fun s hs => by
    rw [addAll_cn s _ _ (by rw [zeros_len]; exact hs), zeros_get, i4 (cn s) (fun _ _ => rfl)]
    omega
  refine ⟨a :: r, ?_, by simp [i1], i3, i2, ?_, fun s q hq h0 hs hc => ?_, fun s hs h0 => ?_, ?_⟩
  · rw [addAll_len, zeros_len]
  · refine kraft_full _ _ (by omega) i3 i2 ?_
    rw [i5, List.length_cons, i1, Nat.pow_succ, show 2 * (csOf c).length - 2 = ((csOf c).length - 1) * 2 by omega, Nat.mul_assoc, Nat.mul_comm 2]
  · rw [hget s hs]
    have : (fun x => tot (cn s) ((csOf c).take x)) = fun x => if q < x then (1 : Int) else 0 := funext fun x => cs_take c s q hq h0 hc x
    rw [this, sum_over]
  · rw [hget s hs]
    exact sum_zero (fun x => cs_none c s h0 x) _
  · rw [addAll_need c _ _ (fun t ht => rows_of c m t (List.mem_of_mem_take ht)) (zeros_len c), zeros_need]
    omega
end Go.Proofs.Ytpldapjcojjicaa.B
