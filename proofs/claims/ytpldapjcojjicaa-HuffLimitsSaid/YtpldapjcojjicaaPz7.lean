/- Layer 2 (huff): the document's Limit tells what Limit tells: the end. -/
import Derived.Test.YtpldapjcojjicaaPz6
namespace Go.Proofs.Ytpldapjcojjicaa.Pure
open Go.RowKit Go.Proofs.Ytpldapjcojjicaa.Pl Go.Proofs.Ytpldapjcojjicaa.B Go.Proofs.YtpldapjcojjicaaW.PrintWords Go.Proofs.YtpldapjcojjicaaW.PrintLast Go.Proofs.YtpldapjcojjicaaW.PrintMore
set_option linter.unusedVariables false
set_option linter.unusedSimpArgs false

theorem cn_leaves (s : Nat) : ∀ t : Tr, cn s t ≤ t.leaves
  | .coin _ t => by unfold cn Tr.leaves; split <;> omega
  | .pair a b => by have := cn_leaves s a; have := cn_leaves s b; unfold cn Tr.leaves; omega
/-- The counts are good. -/
def GoodC (l : List Int) : Prop := l.length ≤ 288 ∧ ∀ x ∈ l, 0 ≤ x ∧ x ≤ 1000000000
theorem row_bd (l : List Int) (h : GoodC l) (m : Nat) (hm : m ≤ 15) : ∀ t ∈ rowsF (csOf l) m, 0 ≤ t.wt ∧ t.wt ≤ 100000000000000 ∧ ∀ s, cn s t ≤ 100000 := fun t ht => by
  have hb := rows_bd (csOf l) 0 1000000000 (fun t ht => by
    obtain ⟨s, h1, h2, rfl⟩ := cs_of l t ht
    have h3 : l.getD s 0 ∈ l := by
      rw [List.getD_eq_getElem?_getD, List.getElem?_eq_getElem h1, Option.getD_some]
      exact List.getElem_mem h1
    have := h.2 _ h3
    exact ⟨by show 0 ≤ l.getD s 0; omega, by show l.getD s 0 ≤ _; omega, rfl⟩) m t ht
  have hp : (2 : Nat) ^ m ≤ 2 ^ 15 := Nat.pow_le_pow_right (by omega) hm
  have h2 : (1000000000 : Int) * ((2 ^ m : Nat) : Int) ≤ 1000000000 * 32768 := Int.mul_le_mul_of_nonneg_left (by omega) (by omega)
  refine ⟨hb.1, by omega, fun s => ?_⟩
  have := cn_leaves s t
  omega
theorem rows_go (l : List Int) (hc : GoodC l) (many : Int) (Z : List Int) (most : Nat) (hmost : most ≤ 15) (r : List Int × Int) : ∀ (d m : Nat), m + 1 + d = most →
    Evt (fun k => vitrineref02_Limit.l6 k l many Z ((rowsF (csOf l) (most - 1)).map (th l)) 0) r →
    Evt (fun k => vitrineref02_Limit.l3 k (most : Int) l many Z ((csOf l).map (th l)) ((rowsF (csOf l) m).map (th l)) ((m + 1 : Nat) : Int)) r
  | 0, m, hd, h => by
    refine Evt.step (fun k => ?_) h
    simp only [vitrineref02_Limit.l3]
    rw [if_neg (by omega), show most - 1 = m by omega]
  | d + 1, m, hd, h => by
    have ih := rows_go l hc many Z most hmost r d (m + 1) (by omega) h
    have hcl : (csOf l).length ≤ 288 := by rw [cs_len]; exact Nat.le_trans (coinsFrom_len l 0) hc.1
    have hrl := rows_len (csOf l) m
    rw [rows_mrg (csOf l) (cs_srt l) m] at ih
    have hrow := row_is l (csOf l) (pairs2 (rowsF (csOf l) m)) (by rw [pairs2_len]; omega)
    have hb : Evt (fun k => (vitrineref02_row.f k ((csOf l).map (th l)) ((([] : List Tr) ++ pairs2 (rowsF (csOf l) m)).map (th l))).bind fun t => vitrineref02_Limit.l3 k (most : Int) l many Z ((csOf l).map (th l)) t (wrap64 (((m + 1 : Nat) : Int) + 1))) r := by
      rw [List.nil_append]
      refine Evt.bind (G := fun k t => vitrineref02_Limit.l3 k (most : Int) l many Z ((csOf l).map (th l)) t (wrap64 (((m + 1 : Nat) : Int) + 1))) hrow ?_
      rw [nxt _ (by omega)]
      exact ih
    have hp := pairs_go (most : Int) l many ((m + 1 : Nat) : Int) Z ((csOf l).map (th l)) hc.1 r (rowsF (csOf l) m) [] [] (by simp; omega) (by simp; omega) (row_bd l hc m (by omega)) hb
    refine Evt.step (fun k => ?_) hp
    simp only [vitrineref02_Limit.l3]
    rw [if_pos (by omega)]
    simp
theorem add_go (l : List Int) (hl : l.length ≤ 288) (many : Int) (t : Tr) (pre rest : List Tr) (hp : pre.length + rest.length ≤ 10000) (L : List Int) (hL : L.length = l.length) (ht : ∀ s, cn s t ≤ 100000) (hb : ∀ s, 0 ≤ L.getD s 0 ∧ L.getD s 0 ≤ 1000000000) (r : List Int × Int)
    (h : Evt (fun k => vitrineref02_Limit.l6 k l many (t.add L) ((pre ++ t :: rest).map (th l)) ((pre.length + 1 : Nat) : Int)) r) :
    ∀ (d2 e2 d1 : List Int), t.add L = d1 ++ d2 → d2.length = e2.length → (∀ j, j < e2.length → e2.getD j 0 = L.getD (d1.length + j) 0) →
    Evt (fun k => vitrineref02_Limit.l7 k l many (d1 ++ e2) ((pre ++ t :: rest).map (th l)) pre.length d1.length) r
  | [], [], d1, hd, he, hE => by
    have h1 : d1.length = l.length := by
      have := congrArg List.length hd
      rw [Tr.add_len, hL] at this
      simpa using this.symm
    rw [List.append_nil] at hd
    refine Evt.step (fun k => ?_) h
    simp only [vitrineref02_Limit.l7]
    rw [if_neg (by omega), nxt _ (by omega), hd, List.append_nil]
  | [], u :: e2, d1, hd, he, hE => by simp at he
  | v :: d2, [], d1, hd, he, hE => by simp at he
  | v :: d2, u :: e2, d1, hd, he, hE => by
    have h1 : d1.length + d2.length + 1 = l.length := by
      have := congrArg List.length hd
      rw [Tr.add_len, hL] at this
      simp at this
      omega
    have he' : d2.length = e2.length := by simpa using he
    have hu : u = L.getD d1.length 0 := by simpa using hE 0 (by simp)
    have hv : v = L.getD d1.length 0 + cn d1.length t := by
      have h2 := add_cn d1.length t L (by omega)
      rw [hd] at h2
      rw [← h2]
      simp
    have ih := add_go l hl many t pre rest hp L hL ht hb r h d2 e2 (d1 ++ [v]) (by simpa using hd) he' (fun j hj => by
      have := hE (j + 1) (by simpa using hj)
      rw [List.length_append, List.length_singleton, show d1.length + 1 + j = d1.length + (j + 1) by omega, ← this]
      simp)
    have hlen : (((pre ++ t :: rest).map (th l)).length : Int) = (pre.length : Int) + rest.length + 1 := by rw [map_len]; simp only [List.length_cons]; omega
    have hbb := hb d1.length
    have htt := ht d1.length
    have htn := cn_nonneg d1.length t
    refine Evt.step (fun k => ?_) ih
    simp only [vitrineref02_Limit.l7]
    rw [rdT_mid, th_len, if_pos (by omega), if_pos (by omega), if_pos (by simp; omega), if_pos (by omega), if_pos (by rw [hlen]; omega), if_pos (by omega), nxt _ (by omega), rd_mid]
    have e : wrap64 (u + rd (th l t).f2 (d1.length : Int)) = v := by
      show wrap64 (u + rd (t.add (zerosOf l)) _) = v
      rw [rd_add l t _ (by omega), w64 _ (by omega), hv, hu]
    rw [e, set_mid]
    simp
theorem sum_go (l : List Int) (hl : l.length ≤ 288) (many : Int) (row : List Tr) (n : Nat) (hn : n ≤ row.length) (hr : row.length ≤ 1000) (hw : wrap64 (wrap64 (2 * many) - 2) = (n : Int) ∨ (n = 0 ∧ wrap64 (wrap64 (2 * many) - 2) ≤ 0)) (hb : ∀ t ∈ row, ∀ s, cn s t ≤ 100000) :
    ∀ (d : Nat) (i : Nat), i + d = n → Evt (fun k => vitrineref02_Limit.l6 k l many (addAll (row.take i) (zerosOf l)) (row.map (th l)) (i : Nat)) (addAll (row.take n) (zerosOf l), (0 : Int))
  | 0, i, hi => by
    obtain rfl : i = n := by omega
    refine Evt.now fun k => ?_
    simp only [vitrineref02_Limit.l6]
    rw [if_neg (by omega)]
  | d + 1, i, hi => by
    have ih := sum_go l hl many row n hn hr hw hb d (i + 1) (by omega)
    have hir : i < row.length := by omega
    have hsplit : row = row.take i ++ row[i] :: row.drop (i + 1) := by
      rw [List.getElem_cons_drop, List.take_append_drop]
    have htl : (row.take i).length = i := by simp; omega
    have htake : row.take (i + 1) = row.take i ++ [row[i]] := by rw [List.take_succ_eq_append_getElem hir]
    have hadd : addAll (row.take (i + 1)) (zerosOf l) = (row[i]).add (addAll (row.take i) (zerosOf l)) := by
      rw [htake]
      unfold addAll
      rw [List.foldl_append]
      rfl
    rw [hadd] at ih
    have hL : (addAll (row.take i) (zerosOf l)).length = l.length := by rw [addAll_len, zeros_len]
    have hbd : ∀ s, 0 ≤ (addAll (row.take i) (zerosOf l)).getD s 0 ∧ (addAll (row.take i) (zerosOf l)).getD s 0 ≤ 1000000000 := fun s => by
      by_cases hs : s < l.length
      · rw [addAll_cn s _ _ (by rw [zeros_len]; exact hs), zeros_get]
        have h0 := tot_cn_nonneg s (row.take i)
        have h1 : ∀ q : List Tr, (∀ t ∈ q, cn s t ≤ 100000) → tot (cn s) q ≤ 100000 * q.length := fun q => by
          induction q with
          | nil => intro _; simp [tot]
          | cons a q ihq =>
            intro hq
            have := ihq fun t ht => hq t (List.mem_cons_of_mem _ ht)
            have := hq a List.mem_cons_self
            rw [tot_cons, List.length_cons]
            omega
        have h2 := h1 (row.take i) fun t ht => hb t (List.mem_of_mem_take ht) s
        rw [htl] at h2
        omega
      · rw [List.getD_eq_getElem?_getD, List.getElem?_eq_none (by omega)]; simp
    have hg := add_go l hl many row[i] (row.take i) (row.drop (i + 1)) (by simp; omega) _ hL (hb _ (List.getElem_mem hir)) hbd (addAll (row.take n) (zerosOf l), 0) (by
      rw [← hsplit, htl]
      exact ih) ((row[i]).add (addAll (row.take i) (zerosOf l))) (addAll (row.take i) (zerosOf l)) [] rfl (by rw [Tr.add_len]) (fun j _ => by simp)
    rw [← hsplit, htl] at hg
    refine Evt.step (fun k => ?_) hg
    simp only [vitrineref02_Limit.l6]
    rw [if_pos (by omega)]
    simp
theorem shl_one (m : Nat) (hm : m ≤ 15) : shl .i64 1 (m : Int) = ((2 ^ m : Nat) : Int) := by
  have : m = 0 ∨ m = 1 ∨ m = 2 ∨ m = 3 ∨ m = 4 ∨ m = 5 ∨ m = 6 ∨ m = 7 ∨ m = 8 ∨ m = 9 ∨ m = 10 ∨ m = 11 ∨ m = 12 ∨ m = 13 ∨ m = 14 ∨ m = 15 := by omega
  rcases this with h | h | h | h | h | h | h | h | h | h | h | h | h | h | h | h <;> (subst h; decide +kernel)
theorem ref_limit (most : Int) (l : List Int) : Evt (fun k => vitrineref02_Limit.f k most l) (limitF most l) := by
  by_cases hbad : most < 1 ∨ 15 < most ∨ 288 < l.length
  · have e : limitF most l = ([], 1) := by
      unfold limitF
      rw [if_pos (by rcases hbad with h | h | h <;> simp [h])]
    rw [e]
    refine ⟨1, fun k hk => ?_⟩
    obtain ⟨j, rfl⟩ : ∃ j, k = j + 1 := ⟨k - 1, by omega⟩
    have hj : vitrineref02_Limit.j0 (j + 1) most l true = some ([], 1) := by simp only [vitrineref02_Limit.j0]; rw [if_pos trivial]
    show vitrineref02_Limit.f (j + 1) most l = _
    unfold vitrineref02_Limit.f
    by_cases h1 : (l.length : Int) > 288
    · rw [if_pos h1, hj]
    · rw [if_neg h1]
      by_cases h2 : most < 1
      · rw [if_pos h2, hj]
      · rw [if_neg h2, show decide (most > 15) = true by rw [decide_eq_true_iff]; omega, hj]
  · obtain ⟨m, rfl⟩ : ∃ m : Nat, most = (m : Int) := ⟨most.toNat, by omega⟩
    have hl : l.length ≤ 288 := by omega
    have h0 : Evt (fun k => vitrineref02_Limit.l0 k (m : Int) l 0 0) (limitF m l) := by
      by_cases hb : l.any badCount = true
      · have e : limitF m l = ([], 1) := by
          unfold limitF
          rw [if_pos (.inr (.inr (.inr hb)))]
        rw [e]
        exact count_bad m l [] (by simpa using hl) hb
      · have hb' : l.any badCount = false := by simpa using hb
        have hgood : ∀ x ∈ l, 0 ≤ x ∧ x ≤ 1000000000 := fun x hx => by
          have := List.any_eq_false.1 hb' x hx
          unfold badCount at this
          simp at this
          omega
        refine count_go m _ l [] (by simpa using hl) hb' ?_
        simp only [List.nil_append]
        have hcl : (coinsOf l).length ≤ l.length := coinsFrom_len l 0
        have hnb : ¬ ((m : Int) < 1 ∨ 15 < (m : Int) ∨ 288 < l.length ∨ l.any badCount = true) := by rintro (h | h | h | h) <;> first | omega | exact hb h
        by_cases hmany : 2 ^ m < (coinsOf l).length
        · refine Evt.now fun k => ?_
          simp only [vitrineref02_Limit.l0]
          rw [if_neg (by omega), if_pos (by omega), shl_one m (by omega), if_pos (by omega)]
          unfold limitF
          rw [if_neg hnb, if_pos (by rw [Int.toNat_natCast]; exact hmany)]
        · refine Evt.step (G := fun k => vitrineref02_Limit.l1 k (m : Int) l ((coinsOf l).length : Nat) (zerosOf l) [] 0) (fun k => ?_) ?_
          · simp only [vitrineref02_Limit.l0]
            rw [if_neg (by omega), if_pos (by omega), shl_one m (by omega), if_neg (by omega), if_pos (by omega), if_pos (by rw [Int.toNat_natCast]; omega), Int.toNat_natCast]
            rfl
          · have hlim : limitF m l = if (coinsOf l).length < 2 then (addAll (coinsOf l) (zerosOf l), 0) else (addAll ((rowsF (csOf l) (m - 1)).take (2 * (coinsOf l).length - 2)) (zerosOf l), 0) := by
              unfold limitF
              rw [if_neg hnb, if_neg (by rw [Int.toNat_natCast]; exact hmany), Int.toNat_natCast]
              rfl
            by_cases h1 : (coinsOf l).length = 1
            · have := coins_one m l [] (by simpa using hl) (fun x hx => (hgood x hx).1) rfl (by simpa using h1)
              rw [hlim, if_pos (by omega), h1]
              simpa using this
            · have hcs : (csOf l).length = (coinsOf l).length := cs_len l
              have hrl := rows_len (csOf l) (m - 1)
              have hen : 2 * (csOf l).length - 2 ≤ (rowsF (csOf l) (m - 1)).length := enough l (m - 1) (by rw [hcs, show m - 1 + 1 = m by omega]; omega)
              have hsum := sum_go l hl ((coinsOf l).length : Nat) (rowsF (csOf l) (m - 1)) (2 * (coinsOf l).length - 2) (by rw [← hcs]; exact hen) (by omega) (by
                rw [w64 (2 * _) (by omega), w64 _ (by omega)]
                omega) (fun t ht => (row_bd l ⟨hl, hgood⟩ (m - 1) (by omega) t ht).2.2) (2 * (coinsOf l).length - 2) 0 (by omega)
              have hres : limitF m l = (addAll ((rowsF (csOf l) (m - 1)).take (2 * (coinsOf l).length - 2)) (zerosOf l), 0) := by
                rw [hlim]
                split
                · have : coinsOf l = [] := List.eq_nil_of_length_eq_zero (by omega)
                  rw [this]
                  rfl
                · rfl
              rw [hres]
              have hrows := rows_go l ⟨hl, hgood⟩ ((coinsOf l).length : Nat) (zerosOf l) m (by omega) _ (m - 1) 0 (by omega) hsum
              have := coins_go m ((coinsOf l).length : Nat) (by omega) _ l [] (by simpa using hl) (fun x hx => (hgood x hx).1) hrows
              exact this
    obtain ⟨K, h0⟩ := h0
    refine ⟨K + 1, fun k hk => ?_⟩
    obtain ⟨j, rfl⟩ : ∃ j, k = j + 1 := ⟨k - 1, by omega⟩
    show vitrineref02_Limit.f (j + 1) (m : Int) l = _
    unfold vitrineref02_Limit.f
    rw [if_neg (by omega), if_neg (by omega), show decide ((m : Int) > 15) = false by rw [decide_eq_false_iff_not]; omega]
    show vitrineref02_Limit.j0 (j + 1) (m : Int) l false = _
    simp only [vitrineref02_Limit.j0]
    rw [if_neg (by decide)]
    exact h0 j (by omega)
theorem ints_go (a : List Int) : ∀ (d i k : Nat), i + d = a.length → a.length ≤ 1000000 → vitrinelaw02_ints.l0 (k + d + 1) a a i = some true
  | 0, i, k, h, hl => by
    unfold vitrinelaw02_ints.l0
    rw [if_neg (by omega)]
  | d + 1, i, k, h, hl => by
    rw [show k + (d + 1) + 1 = (k + d + 1) + 1 by omega]
    unfold vitrinelaw02_ints.l0
    rw [if_pos (by omega), if_pos (by omega), if_pos (by omega), if_pos rfl, nxt _ (by omega)]
    exact ints_go a d (i + 1) k (by omega) hl
theorem ints_self (a : List Int) (k : Nat) (hk : a.length < k) (hl : a.length ≤ 1000000) : vitrinelaw02_ints.f k a a = some true := by
  unfold vitrinelaw02_ints.f
  rw [if_pos rfl]
  have := ints_go a a.length 0 (k - a.length - 1) (by omega) hl
  rw [show k - a.length - 1 + a.length + 1 = k by omega] at this
  exact this
theorem limitF_len (most : Int) (l : List Int) : (limitF most l).1.length ≤ 288 := by
  unfold limitF
  split
  · simp
  · rename_i h
    split
    · simp
    · split
      · show (addAll _ _).length ≤ _
        rw [addAll_len, zeros_len]; omega
      · show (addAll _ _).length ≤ _
        rw [addAll_len, zeros_len]; omega
end Go.Proofs.Ytpldapjcojjicaa.Pure
