/- Layer 2 (huff): the lengths that Limit tells are full, by Check's own word. No walk in this text. -/
import Derived.Test.YtpldapjcojjicaaPz1
import Derived.Test.YtpldapjcojjicaaBn
namespace Go.Proofs.Ytpldapjcojjicaa.Pure
open Go.RowKit Go.Proofs.Ytpldapjcojjicaa.B Go.Proofs.YtpldapjcojjicaaW.PrintWords Go.Proofs.YtpldapjcojjicaaW.PrintLast Go.Proofs.YtpldapjcojjicaaW.PrintMore
set_option linter.unusedVariables false
set_option linter.unusedSimpArgs false

/-- A coin's worth by its symbol. -/
def gg (h : Nat → Int) : Tr → Int
  | .coin _ s => h s
  | .pair _ _ => 0
theorem align (h : Nat → Int) : ∀ (c l : List Int) (i : Nat), l.length = c.length → (∀ j, j < c.length → (0 < l.getD j 0 ↔ 0 < c.getD j 0)) →
    (∀ j, j < c.length → 0 < c.getD j 0 → h (i + j) = 2 ^ (15 - (l.getD j 0).toNat)) → sumS l = tot (gg h) (coinsFrom c i) ∧ sumM l = (coinsFrom c i).length
  | [], [], i, _, _, _ => ⟨rfl, rfl⟩
  | [], y :: l, i, hl, _, _ => by simp at hl
  | x :: c, [], i, hl, _, _ => by simp at hl
  | x :: c, y :: l, i, hl, h1, h2 => by
    have hl' : l.length = c.length := by simpa using hl
    obtain ⟨i1, i2⟩ := align h c l (i + 1) hl' (fun j hj => by have := h1 (j + 1) (by simpa using hj); simpa using this) (fun j hj h0 => by
      have := h2 (j + 1) (by simpa using hj) (by simpa using h0)
      rw [show i + 1 + j = i + (j + 1) by omega, this]
      simp)
    have e1 := h1 0 (by simp)
    have e2 := h2 0 (by simp)
    simp only [List.getD_cons_zero, Nat.add_zero] at e1 e2
    rw [sumS_cons, sumM_cons, coinsFrom_cons, i1, i2]
    by_cases hx : 0 < x
    · rw [if_pos (e1.2 hx), if_pos (e1.2 hx), if_pos hx, tot_cons, List.length_cons]
      exact ⟨by rw [show gg h (Tr.coin x i) = h i from rfl, e2 hx], by omega⟩
    · rw [if_neg (fun c => hx (e1.1 c)), if_neg (fun c => hx (e1.1 c)), if_neg hx]
      exact ⟨by omega, by omega⟩
theorem tot_take_sum (f : Tr → Int) (F : Nat → Nat) (l : List Tr) (h : ∀ r, (hr : r < l.length) → f l[r] = (F r : Nat)) : ∀ k, k ≤ l.length → tot f (l.take k) = (sumN F k : Nat)
  | 0, _ => by simp [tot, sumN]
  | k + 1, hk => by
    rw [tot_take_succ f l k (by omega), tot_take_sum f F l h k (by omega), h k (by omega)]
    simp only [sumN]
    omega
theorem sumN_mul (F : Nat → Nat) (v : Nat) : ∀ n, sumN (fun i => v * F i) n = v * sumN F n
  | 0 => rfl
  | n + 1 => by simp only [sumN, sumN_mul F v n, Nat.mul_add]
/-- What Limit tells of counts. -/
structure Told (most : Int) (c l : List Int) : Prop where
  len : l.length = c.length
  chk : checkF l = 0
  pos : ∀ i, i < c.length → (0 < l.getD i 0 ↔ 0 < c.getD i 0)
  bd : ∀ i, i < c.length → 0 ≤ l.getD i 0 ∧ l.getD i 0 ≤ most
  ord : ∀ i k, i < c.length → k < c.length → c.getD k 0 < c.getD i 0 → 0 < c.getD k 0 → l.getD i 0 ≤ l.getD k 0
theorem good_get (l : List Int) (n : Nat) (hl : l.length = n) (h : ∀ i, i < n → 0 ≤ l.getD i 0 ∧ l.getD i 0 ≤ 15) : Good l := fun x hx => by
  obtain ⟨i, hi, rfl⟩ := List.getElem_of_mem hx
  have := h i (by omega)
  rw [List.getD_eq_getElem?_getD, List.getElem?_eq_getElem hi] at this
  exact this
theorem good_bad {l : List Int} (h : Good l) : l.any badLen = false := by
  rw [List.any_eq_false]
  intro x hx
  rw [(badLen_iff x).2 (h x hx)]
  simp
theorem ranks_told {m : Nat} {c l : List Int} {az : List Nat} (h : Ranks m c l az) (hm : m ≤ 14) (hc : c.length ≤ 288) (h2 : 2 ≤ (csOf c).length) : Told ((m : Int) + 1) c l := by
  have hov : ∀ r, r < (csOf c).length → 1 ≤ over r az ∧ over r az ≤ m + 1 := fun r hr => ⟨over_pos _ _ h2 h.full r hr, by have := over_le r az; rw [h.az_len] at this; exact this⟩
  have hpos : ∀ i, i < c.length → (0 < l.getD i 0 ↔ 0 < c.getD i 0) := fun i hi => by
    by_cases h0 : 0 < c.getD i 0
    · obtain ⟨r, hr, e⟩ := cs_rank c i hi h0
      have := hov r hr
      rw [h.at_ i r hr h0 hi e]
      exact ⟨fun _ => h0, fun _ => by omega⟩
    · rw [h.none i hi h0]
      exact ⟨fun h => by omega, fun h => absurd h h0⟩
  have hbd : ∀ i, i < c.length → 0 ≤ l.getD i 0 ∧ l.getD i 0 ≤ (m : Int) + 1 := fun i hi => by
    by_cases h0 : 0 < c.getD i 0
    · obtain ⟨r, hr, e⟩ := cs_rank c i hi h0
      have := hov r hr
      rw [h.at_ i r hr h0 hi e]
      omega
    · rw [h.none i hi h0]
      omega
  have hg : Good l := good_get l _ h.len fun i hi => by have := hbd i hi; omega
  refine ⟨h.len, ?_, hpos, hbd, fun i k hi hk hik h0 => ?_⟩
  · rw [checkF_is, if_neg (by rw [good_bad hg, h.len]; rintro (h | h) <;> first | omega | cases h)]
    obtain ⟨e1, e2⟩ := align (fun s => 2 ^ (15 - (l.getD s 0).toNat)) c l 0 h.len hpos (fun j _ _ => by rw [Nat.zero_add])
    have hS : sumS l = 32768 := by
      rw [e1]
      show tot _ (coinsOf c) = _
      rw [← tot_isort]
      show tot _ (csOf c) = _
      have ht := tot_take_sum (gg fun s => 2 ^ (15 - (l.getD s 0).toNat)) (fun r => 2 ^ (15 - az.length) * 2 ^ (az.length - over r az)) (csOf c) (fun r hr => by
        obtain ⟨s, hs, h0, e⟩ := cs_of c _ (List.getElem_mem hr)
        rw [e]
        show (2 : Int) ^ (15 - (l.getD s 0).toNat) = _
        rw [h.at_ s r hr h0 hs e, Int.toNat_natCast, ← Nat.pow_add, pow_cast]
        have h1 := over_le r az
        have h2 := h.az_len
        rw [show 15 - az.length + (az.length - over r az) = 15 - over r az by omega]) (csOf c).length (Nat.le_refl _)
      rw [List.take_length] at ht
      rw [ht, sumN_mul, h.full, ← Nat.pow_add, h.az_len, show 15 - (m + 1) + (m + 1) = 15 by omega]
      rfl
    rw [hS]
    unfold tellS
    rw [if_neg (by omega), if_neg (by omega)]
  · obtain ⟨r, hr, e⟩ := cs_rank c i hi (by omega)
    obtain ⟨q, hq, f⟩ := cs_rank c k hk h0
    rw [h.at_ i r hr (by omega) hi e, h.at_ k q hq h0 hk f]
    have hqr : q ≤ r := by
      apply Nat.le_of_not_lt
      intro hlt
      have := srt_get (cs_srt c) r q (by omega) hq
      rw [e, f] at this
      have : c.getD i 0 ≤ c.getD k 0 := this
      omega
    have := over_anti az q r hqr
    omega
theorem ones_is : ∀ L : List Int, (∀ x ∈ L, x = 0 ∨ x = 1) → sumS L = 16384 * sumM L ∧ sumM L = cnt 1 L
  | [], _ => ⟨rfl, rfl⟩
  | x :: L, hall => by
    obtain ⟨i1, i2⟩ := ones_is L fun y hy => hall y (List.mem_cons_of_mem _ hy)
    rw [sumS_cons, sumM_cons, cnt_cons]
    rcases hall x List.mem_cons_self with rfl | rfl
    · rw [if_neg (by omega), if_neg (by omega), if_neg (by omega)]; omega
    · rw [if_pos (by omega), if_pos (by omega), if_pos rfl]
      simp
      omega
/-- One coin or none. -/
theorem one_told (c : List Int) (most : Int) (hm : 1 ≤ most) (hc : c.length ≤ 288) (h1 : (coinsOf c).length < 2) : Told most c (addAll (coinsOf c) (zerosOf c)) := by
  have hget : ∀ s, s < c.length → (addAll (coinsOf c) (zerosOf c)).getD s 0 = if 0 < c.getD s 0 then 1 else 0 := fun s hs => by
    rw [addAll_cn s _ _ (by rw [zeros_len]; exact hs), zeros_get, ← cs_cn c s]
    unfold csOf
    rw [tot_isort]
    omega
  have hlen : (addAll (coinsOf c) (zerosOf c)).length = c.length := by rw [addAll_len, zeros_len]
  have hpos : ∀ i, i < c.length → (0 < (addAll (coinsOf c) (zerosOf c)).getD i 0 ↔ 0 < c.getD i 0) := fun i hi => by
    rw [hget i hi]
    split <;> simp_all
  have hg : Good (addAll (coinsOf c) (zerosOf c)) := good_get _ _ hlen fun i hi => by rw [hget i hi]; split <;> omega
  refine ⟨hlen, ?_, hpos, fun i hi => by rw [hget i hi]; split <;> omega, fun i k hi hk hik h0 => ?_⟩
  · rw [checkF_is, if_neg (by rw [good_bad hg, hlen]; rintro (h | h) <;> first | omega | cases h)]
    obtain ⟨e1, e2⟩ := align (fun s => 2 ^ (15 - ((addAll (coinsOf c) (zerosOf c)).getD s 0).toNat)) c _ 0 hlen hpos (fun j _ _ => by rw [Nat.zero_add])
    have e2 : sumM (addAll (coinsOf c) (zerosOf c)) = (coinsOf c).length := e2
    have hb := sumS_bd (addAll (coinsOf c) (zerosOf c))
    generalize hL : addAll (coinsOf c) (zerosOf c) = L at *
    have hS : sumS L = 16384 * sumM L ∧ sumM L = cnt 1 L := by
      have hall : ∀ x ∈ L, x = 0 ∨ x = 1 := fun x hx => by
        obtain ⟨i, hi, rfl⟩ := List.getElem_of_mem hx
        have := hget i (by omega)
        rw [List.getD_eq_getElem?_getD, List.getElem?_eq_getElem hi, Option.getD_some] at this
        rw [this]
        split <;> simp
      exact ones_is L hall
    obtain ⟨_, _, h3⟩ := one_max L hg
    have h3 := (h3 0 (by omega)).2
    unfold tellS
    rw [if_neg (by omega), if_neg]
    rintro ⟨_, hp, hn⟩
    have hM : sumM L = 1 := by omega
    exact hn ⟨hM, ((h3 hM).1 (by omega)).trans (by decide)⟩
  · rw [hget i hi, hget k hk, if_pos h0]
    split <;> omega
theorem limitF_ok (most : Int) (c : List Int) (h : ¬ (most < 1 ∨ 15 < most ∨ 288 < c.length ∨ c.any badCount = true)) (hn : (coinsOf c).length ≤ 2 ^ most.toNat) : limitF most c = if (coinsOf c).length < 2 then (addAll (coinsOf c) (zerosOf c), 0)
  else (addAll ((rowsF (isort Tr.wt (coinsOf c)) (most.toNat - 1)).take (2 * (coinsOf c).length - 2)) (zerosOf c), 0) := by
  unfold limitF
  rw [if_neg h, if_neg (by omega)]
theorem limit_told (most : Int) (c : List Int) (h : ¬ (most < 1 ∨ 15 < most ∨ 288 < c.length ∨ c.any badCount = true)) (hn : (coinsOf c).length ≤ 2 ^ most.toNat) : (limitF most c).2 = 0 ∧ Told most c (limitF most c).1 := by
  unfold limitF
  rw [if_neg h, if_neg (by omega)]
  by_cases h2 : (coinsOf c).length < 2
  · rw [if_pos h2]
    exact ⟨rfl, one_told c most (by omega) (by omega) h2⟩
  · rw [if_neg h2]
    obtain ⟨m, rfl⟩ : ∃ m : Nat, most = (m : Int) + 1 := ⟨(most - 1).toNat, by omega⟩
    have ht : ((m : Int) + 1).toNat = m + 1 := by omega
    rw [ht] at hn
    obtain ⟨az, hR⟩ := ranks_is c m (by rw [cs_len]; omega) (by rw [cs_len]; omega)
    rw [cs_len] at hR
    rw [ht, Nat.add_sub_cancel]
    exact ⟨rfl, ranks_told hR (by omega) (by omega) (by rw [cs_len]; omega)⟩
theorem limit_better (most : Int) (c : List Int) (h : ¬ (most < 1 ∨ 15 < most ∨ 288 < c.length ∨ c.any badCount = true)) (hn : (coinsOf c).length ≤ 2 ^ most.toNat) (h15 : most < 15) :
    need (limitF (most + 1) c).1 c c.length ≤ need (limitF most c).1 c c.length := by
  have hpow : 2 ^ most.toNat ≤ 2 ^ (most + 1).toNat := Nat.pow_le_pow_right (by omega) (by omega)
  rw [limitF_ok most c h hn, limitF_ok (most + 1) c (by rintro (q | q | q | q) <;> first | omega | exact h (.inr (.inr (.inr q)))) (by omega)]
  by_cases h2 : (coinsOf c).length < 2
  · rw [if_pos h2, if_pos h2]
    exact Int.le_refl _
  · rw [if_neg h2, if_neg h2]
    obtain ⟨m, rfl⟩ : ∃ m : Nat, most = (m : Int) + 1 := ⟨(most - 1).toNat, by omega⟩
    have ht : ((m : Int) + 1).toNat = m + 1 := by omega
    have ht2 : ((m : Int) + 1 + 1).toNat = m + 1 + 1 := by omega
    rw [ht] at hn
    rw [ht2] at hpow
    obtain ⟨az, hR⟩ := ranks_is c m (by rw [cs_len]; omega) (by rw [cs_len]; omega)
    obtain ⟨az2, hR2⟩ := ranks_is c (m + 1) (by rw [cs_len]; omega) (by rw [cs_len]; rw [ht] at hpow; omega)
    have h1 := hR.cost
    have h3 := hR2.cost
    rw [cs_len] at h1 h3
    rw [ht, ht2, Nat.add_sub_cancel, Nat.add_sub_cancel]
    show need (addAll ((rowsF (csOf c) (m + 1)).take (2 * (coinsOf c).length - 2)) (zerosOf c)) c c.length ≤ need (addAll ((rowsF (csOf c) m).take (2 * (coinsOf c).length - 2)) (zerosOf c)) c c.length
    rw [h1, h3]
    have hk := enough c m (by rw [cs_len]; omega)
    rw [cs_len] at hk
    exact rows_better (csOf c) (cs_srt c) m _ hk
end Go.Proofs.Ytpldapjcojjicaa.Pure
