/- Layer 2 (huff): HuffBest in plain Lean. -/
import Derived.Test.YtpldapjcojjicaaPz3
import Derived.Test.YtpldapjcojjicaaPl3
namespace Go.Proofs.Ytpldapjcojjicaa.Pure
open Go.RowKit Go.Proofs.Ytpldapjcojjicaa.Pl Go.Proofs.Ytpldapjcojjicaa.B Go.Proofs.YtpldapjcojjicaaW.PrintWords Go.Proofs.YtpldapjcojjicaaW.PrintLast Go.Proofs.YtpldapjcojjicaaW.PrintMore
set_option linter.unusedVariables false
set_option linter.unusedSimpArgs false

theorem rd_nat (l : List Int) (i : Nat) : rd l (i : Int) = l.getD i 0 := by unfold rd; rw [Int.toNat_natCast]
theorem nx (i : Nat) (h : i ≤ 1000000) : wrap64 ((i : Int) + 1) = ((i + 1 : Nat) : Int) := by rw [w64 _ (by omega)]; omega
theorem prod_bd (x y : Int) (h0 : 0 ≤ x) (h1 : x ≤ 15) (h2 : 0 ≤ y) (h3 : y ≤ 1000000000) : 0 ≤ x * y ∧ x * y ≤ 15000000000 :=
  ⟨Int.mul_nonneg h0 h2, by have : x * y ≤ 15 * 1000000000 := Int.mul_le_mul h1 h3 h2 (by omega); omega⟩
theorem need_bd (L c : List Int) (h : ∀ i, 0 ≤ L.getD i 0 ∧ L.getD i 0 ≤ 15) (hc : ∀ i, 0 ≤ c.getD i 0 ∧ c.getD i 0 ≤ 1000000000) : ∀ n : Nat, 0 ≤ need L c n ∧ need L c n ≤ 15000000000 * n
  | 0 => by simp [need, sumI]
  | n + 1 => by
    have ih := need_bd L c h hc n
    have := prod_bd _ _ (h n).1 (h n).2 (hc n).1 (hc n).2
    rw [need_succ]
    omega
theorem need_step (L c : List Int) (h : ∀ i, 0 ≤ L.getD i 0 ∧ L.getD i 0 ≤ 15) (hc : ∀ i, 0 ≤ c.getD i 0 ∧ c.getD i 0 ≤ 1000000000) (n : Nat) (hn : n ≤ 1000) :
    wrap64 (need L c n + wrap64 (rd L n * rd c n)) = need L c (n + 1) := by
  have h1 := need_bd L c h hc n
  have h2 := prod_bd _ _ (h n).1 (h n).2 (hc n).1 (hc n).2
  rw [rd_nat, rd_nat, w64 (L.getD n 0 * c.getD n 0) (by omega), w64 _ (by omega), need_succ]
theorem best_l2 (c m : List Int) (x : Int) (hl : m.length = c.length) (h288 : c.length ≤ 288) (h : ∀ i, 0 ≤ m.getD i 0 ∧ m.getD i 0 ≤ 15) (hc : ∀ i, 0 ≤ c.getD i 0 ∧ c.getD i 0 ≤ 1000000000) (hx : need m c c.length ≤ x) :
    ∀ (d j k : Nat), j + d = c.length → vitrinelaw02_HuffBest.l2 (k + d + 1) c x m (need m c j) j = some true
  | 0, j, k, hj => by
    unfold vitrinelaw02_HuffBest.l2
    rw [if_neg (by omega), show j = c.length by omega, if_pos hx]
    rfl
  | d + 1, j, k, hj => by
    rw [show k + (d + 1) + 1 = (k + d + 1) + 1 by omega]
    unfold vitrinelaw02_HuffBest.l2
    rw [if_pos (by omega), if_pos (by omega), if_pos (by omega), need_step m c h hc j (by omega), nx j (by omega)]
    exact best_l2 c m x hl h288 h hc hx d (j + 1) k (by omega)
theorem best_l1 (most : Int) (c l : List Int) (x : Int) (i : Nat) (hl : l.length = c.length) (h288 : c.length ≤ 288) (hi : i < c.length)
    (ho : ∀ k, k < c.length → c.getD k 0 < c.getD i 0 → 0 < c.getD k 0 → l.getD i 0 ≤ l.getD k 0) :
    ∀ (d j k : Nat), j + d = c.length → vitrinelaw02_HuffBest.l1 (k + d + 1) most c l x i j = vitrinelaw02_HuffBest.l0 k most c l x ((i + 1 : Nat) : Int)
  | 0, j, k, hj => by
    rw [Nat.add_zero]
    conv => lhs; unfold vitrinelaw02_HuffBest.l1
    rw [if_neg (by omega), nx i (by omega)]
  | d + 1, j, k, hj => by
    rw [show k + (d + 1) + 1 = (k + d + 1) + 1 by omega]
    have ih := best_l1 most c l x i hl h288 hi ho d (j + 1) k (by omega)
    conv => lhs; unfold vitrinelaw02_HuffBest.l1
    rw [if_pos (by omega), if_pos (by omega), if_pos (by omega), if_pos (by omega), if_pos (by omega), rd_nat, rd_nat, rd_nat, rd_nat, nx j (by omega)]
    by_cases h1 : c.getD i 0 > c.getD j 0
    · rw [if_pos h1]
      by_cases h2 : c.getD j 0 > 0
      · rw [if_pos h2, if_pos (by omega), if_neg (by have := ho j (by omega) h1 h2; omega)]
        exact ih
      · rw [if_neg h2]
        exact ih
    · rw [if_neg h1]
      exact ih
theorem best_end (most : Int) (c l : List Int) (h : ¬ (most < 1 ∨ 15 < most ∨ 288 < c.length ∨ c.any badCount = true)) (hn : (coinsOf c).length ≤ 2 ^ most.toNat) (hT : l = (limitF most c).1) (hll : l.length = c.length) (hc : ∀ i, 0 ≤ c.getD i 0 ∧ c.getD i 0 ≤ 1000000000) (k : Nat) :
    vitrinelaw02_HuffBest.l0 (k + c.length + 3) most c l (need l c c.length) (c.length : Nat) = some true := by
  unfold vitrinelaw02_HuffBest.l0
  rw [if_neg (by omega)]
  by_cases h15 : most < 15
  · have hok : ¬ (most + 1 < 1 ∨ 15 < most + 1 ∨ 288 < c.length ∨ c.any badCount = true) := by rintro (q | q | q | q) <;> first | omega | exact h (.inr (.inr (.inr q)))
    have hpow : 2 ^ most.toNat ≤ 2 ^ (most + 1).toNat := Nat.pow_le_pow_right (by omega) (by omega)
    obtain ⟨e1, e2⟩ := limit_told (most + 1) c hok (by omega)
    have hb := limit_better most c h hn h15
    rw [← hT] at hb
    generalize hM : limitF (most + 1) c = M at *
    obtain ⟨m, e⟩ := M
    simp only at e1 e2 hb
    subst e1
    rw [if_pos h15, w64 _ (by omega)]
    unfold huff_Limit.f
    rw [if_pos (by omega), hM]
    simp only [Option.bind_some]
    rw [if_pos trivial]
    have hlen : (((m.length : Int) != (l.length : Int))) = false := by rw [e2.len, hll]; simp
    rw [hlen]
    show vitrinelaw02_HuffBest.j4 ((k + c.length + 1) + 1) c (need l c c.length) m false = _
    have hj : ∀ k, vitrinelaw02_HuffBest.j4 (k + 1) c (need l c c.length) m false = vitrinelaw02_HuffBest.l2 k c (need l c c.length) m 0 0 := fun k => rfl
    rw [hj]
    have hm : ∀ i, 0 ≤ m.getD i 0 ∧ m.getD i 0 ≤ 15 := fun i => by
      by_cases hi : i < c.length
      · have := e2.bd i hi; omega
      · rw [List.getD_eq_getElem?_getD, List.getElem?_eq_none (by rw [e2.len]; omega)]; simp
    exact best_l2 c m _ e2.len (by omega) hm hc hb c.length 0 k (by omega)
  · rw [if_neg h15]
    rfl
theorem best_l0 (most : Int) (c l : List Int) (h : ¬ (most < 1 ∨ 15 < most ∨ 288 < c.length ∨ c.any badCount = true)) (hn : (coinsOf c).length ≤ 2 ^ most.toNat) (hl : l = (limitF most c).1) (hT : Told most c l) (hc : ∀ i, 0 ≤ c.getD i 0 ∧ c.getD i 0 ≤ 1000000000) :
    ∀ (d i k : Nat), i + d = c.length → vitrinelaw02_HuffBest.l0 (k + d * (c.length + 3) + c.length + 3) most c l (need l c i) i = some true
  | 0, i, k, hi => by
    have := best_end most c l h hn hl hT.len hc k
    rw [Nat.zero_mul, Nat.add_zero, show i = c.length by omega]
    exact this
  | d + 1, i, k, hi => by
    have hbd := hT.bd i (by omega)
    have hpos := hT.pos i (by omega)
    have hm : ∀ i, 0 ≤ l.getD i 0 ∧ l.getD i 0 ≤ 15 := fun i => by
      by_cases hi : i < c.length
      · have := hT.bd i hi; omega
      · rw [List.getD_eq_getElem?_getD, List.getElem?_eq_none (by rw [hT.len]; omega)]; simp
    have hlen := hT.len
    rw [show k + (d + 1) * (c.length + 3) + c.length + 3 = ((k + d * (c.length + 3) + c.length + 3) + c.length + 1 + 1) + 1 by rw [Nat.succ_mul]; omega]
    conv => lhs; unfold vitrinelaw02_HuffBest.l0
    rw [if_pos (by omega), if_pos (by omega), if_pos (by omega), rd_nat, rd_nat]
    have e1 : ((decide (l.getD i 0 > 0)) != (decide (c.getD i 0 > 0))) = false := by
      have : decide (l.getD i 0 > 0) = decide (c.getD i 0 > 0) := decide_eq_decide.2 hpos
      rw [this]; simp
    have e2 : decide (l.getD i 0 > most) = false := by
      rw [decide_eq_false_iff_not]; omega
    rw [e1, if_neg (by decide), e2]
    have hj : ∀ k, vitrinelaw02_HuffBest.j2 (k + 1) most c l (need l c i) i false = (if (0 : Int) ≤ (i : Int) then (if (i : Int) < (l.length : Int) then (if (i : Int) < (c.length : Int) then (vitrinelaw02_HuffBest.l1 k most c l (wrap64 (need l c i + (wrap64 ((rd l i) * (rd c i))))) i 0) else (none)) else (none)) else (none)) := fun k => rfl
    rw [hj, if_pos (by omega), if_pos (by omega), if_pos (by omega), need_step l c hm hc i (by omega)]
    have h1 := best_l1 most c l (need l c (i + 1)) i hlen (by omega) (by omega) (fun q hq a b => hT.ord i q (by omega) hq a b) c.length 0 (k + d * (c.length + 3) + c.length + 3) (by omega)
    rw [show (0 : Int) = ((0 : Nat) : Int) from rfl, h1]
    exact best_l0 most c l h hn hl hT hc d (i + 1) k (by omega)
theorem HuffBest : vitrinelaw02_HuffBest.Pure := by
  intro most c _ _ h8 _
  by_cases hbad : (most < 1 ∨ 15 < most ∨ 288 < c.length ∨ c.any badCount = true) ∨ 2 ^ most.toNat < (coinsOf c).length
  · refine ⟨0, ?_⟩
    have e : limitF most c = ([], 1) := by
      unfold limitF
      by_cases h : most < 1 ∨ 15 < most ∨ 288 < c.length ∨ c.any badCount = true
      · rw [if_pos h]
      · rw [if_neg h, if_pos (hbad.resolve_left h)]
    unfold vitrinelaw02_HuffBest.f huff_Limit.f
    rw [if_pos (by omega), e]
    rfl
  · have h : ¬ (most < 1 ∨ 15 < most ∨ 288 < c.length ∨ c.any badCount = true) := fun q => hbad (.inl q)
    have hn : (coinsOf c).length ≤ 2 ^ most.toNat := Nat.le_of_not_lt fun q => hbad (.inr q)
    obtain ⟨e1, e2⟩ := limit_told most c h hn
    have hc : ∀ i, 0 ≤ c.getD i 0 ∧ c.getD i 0 ≤ 1000000000 := fun i => by
      by_cases hi : i < c.length
      · rw [List.getD_eq_getElem?_getD, List.getElem?_eq_getElem hi, Option.getD_some]
        have hcb : c.any badCount = false := by
          cases q : c.any badCount
          · rfl
          · exact absurd (.inr (.inr (.inr q))) h
        have := List.any_eq_false.1 hcb c[i] (List.getElem_mem hi)
        unfold badCount at this
        simp at this
        omega
      · rw [List.getD_eq_getElem?_getD, List.getElem?_eq_none (by omega)]; simp
    refine ⟨(0 + c.length * (c.length + 3) + c.length + 3) + 1, ?_⟩
    have hb := best_l0 most c _ h hn rfl e2 hc c.length 0 0 (by omega)
    unfold vitrinelaw02_HuffBest.f huff_Limit.f
    rw [if_pos (by omega)]
    generalize hM : limitF most c = M at *
    obtain ⟨l, e⟩ := M
    simp only at e1 e2 hb
    subst e1
    simp only [Option.bind_some]
    rw [if_pos trivial, if_pos (by rw [e2.len])]
    unfold huff_Check.f
    rw [if_pos (by rw [e2.len]; omega), e2.chk]
    simp only [Option.bind_some]
    have hj : ∀ k, vitrinelaw02_HuffBest.j0 (k + 1) most c l ((0 : Int) != 0) = vitrinelaw02_HuffBest.l0 k most c l 0 0 := fun k => rfl
    rw [hj]
    exact hb
end Go.Proofs.Ytpldapjcojjicaa.Pure
