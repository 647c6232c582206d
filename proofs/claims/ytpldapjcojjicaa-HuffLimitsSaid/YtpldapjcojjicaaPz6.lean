/- Layer 2 (huff): the document's Limit, in plain Lean, to its end: it tells what Limit tells. -/
import Derived.Test.YtpldapjcojjicaaPz5
namespace Go.Proofs.Ytpldapjcojjicaa.Pure
open Go.RowKit Go.Proofs.Ytpldapjcojjicaa.Pl Go.Proofs.Ytpldapjcojjicaa.B Go.Proofs.YtpldapjcojjicaaW.PrintWords Go.Proofs.YtpldapjcojjicaaW.PrintLast Go.Proofs.YtpldapjcojjicaaW.PrintMore
set_option linter.unusedVariables false
set_option linter.unusedSimpArgs false

theorem ins_end (l : List Int) (pre rest : List Tr) (t : Tr) (ht : isC t = true) : ([] ++ pre.map (th l)) ++ [(⟨t.wt, true, t.add (zerosOf l)⟩ : S97)] ++ rest.map (th l) = (pre ++ t :: rest).map (th l) := by
  simp [th, ht]
theorem take_map (l : List Int) (pre rest : List Tr) : ((pre ++ rest).map (th l)).take ((pre.length : Int)).toNat = pre.map (th l) := by simp
theorem drop_map (l : List Int) (pre rest : List Tr) : ((pre ++ rest).map (th l)).drop ((pre.length : Int)).toNat = rest.map (th l) := by simp
theorem ins_go (most : Int) (l : List Int) (many : Int) (hm : many ≠ 1) (i : Nat) (hi : i ≤ 1000) (t : Tr) (ht : isC t = true) (r : List Int × Int) : ∀ (rest pre : List Tr), pre.length + rest.length ≤ 1000 →
    Evt (fun k => vitrineref02_Limit.l1 k most l many (zerosOf l) ((pre ++ insE t rest).map (th l)) ((i + 1 : Nat) : Int)) r →
    Evt (fun k => vitrineref02_Limit.l2 k most l many (zerosOf l) ((pre ++ rest).map (th l)) i pre.length t.wt true (t.add (zerosOf l))) r
  | [], pre, hl, h => by
    refine Evt.step (fun k => ?_) h
    simp only [vitrineref02_Limit.l2]
    rw [if_neg (by rw [map_len]; simp), if_pos (by omega), if_pos (by rw [map_len]; omega), take_map, drop_map]
    simp only [Option.bind_some]
    rw [if_pos (by simp; omega), if_pos (by simp; omega), if_pos (by simp; omega), if_neg hm, ins_end l pre [] t ht, nxt _ (by omega)]
    rfl
  | y :: rest, pre, hl, h => by
    simp only [List.length_cons] at hl
    by_cases hy : y.wt ≤ t.wt
    · have ih := ins_go most l many hm i hi t ht r rest (pre ++ [y]) (by simp; omega) (by simpa [insE, hy] using h)
      refine Evt.step (fun k => ?_) (by simpa using ih)
      simp only [vitrineref02_Limit.l2]
      rw [if_pos (by rw [map_len]; simp only [List.length_cons]; omega), if_pos (by omega), rdT_mid, if_pos (show (th l y).f0 ≤ t.wt from hy), nxt _ (by omega)]
      simp
    · refine Evt.step (fun k => ?_) (by simpa [insE, hy] using h)
      simp only [vitrineref02_Limit.l2]
      rw [if_pos (by rw [map_len]; simp only [List.length_cons]; omega), if_pos (by omega), rdT_mid, if_neg (show ¬ (th l y).f0 ≤ t.wt from hy), if_pos (by rw [map_len]; omega), take_map, drop_map]
      simp only [Option.bind_some]
      rw [if_pos (by simp; omega), if_pos (by simp; omega), if_pos (by simp; omega), if_neg hm, ins_end l pre (y :: rest) t ht, nxt _ (by omega)]
      simp
theorem coin_times (l : List Int) (n : Int) (i : Nat) : (Tr.coin n i).add (zerosOf l) = (List.replicate ((l.length : Nat) : Int).toNat 0).set ((i : Int)).toNat 1 := by
  unfold Tr.add
  rw [zeros_get, Int.toNat_natCast, Int.toNat_natCast]
  rfl
theorem coins_go (most : Int) (many : Int) (hm : many ≠ 1) (r : List Int × Int) : ∀ (rest pre : List Int), pre.length + rest.length ≤ 288 → (∀ x ∈ rest, 0 ≤ x) →
    Evt (fun k => vitrineref02_Limit.l3 k most (pre ++ rest) many (zerosOf (pre ++ rest)) ((csOf (pre ++ rest)).map (th (pre ++ rest))) ((csOf (pre ++ rest)).map (th (pre ++ rest))) 1) r →
    Evt (fun k => vitrineref02_Limit.l1 k most (pre ++ rest) many (zerosOf (pre ++ rest)) ((csOf pre).map (th (pre ++ rest))) pre.length) r
  | [], pre, hl, hx, h => by
    refine Evt.step (fun k => ?_) h
    simp only [vitrineref02_Limit.l1]
    rw [if_neg (by simp)]
    simp
  | x :: rest, pre, hl, hx, h => by
    simp only [List.length_cons] at hl
    have hx0 := hx x List.mem_cons_self
    have e3 : pre ++ x :: rest = (pre ++ [x]) ++ rest := by simp
    have e1 : ((pre ++ x :: rest).length : Int) = (pre.length : Int) + rest.length + 1 := by simp; omega
    have e1n : (pre ++ x :: rest).length = pre.length + rest.length + 1 := by simp; omega
    have hl2 : (pre ++ [x]).length = pre.length + 1 := by simp
    rw [e3] at h
    have ih := coins_go most many hm r rest (pre ++ [x]) (by omega) (fun y hy => hx y (List.mem_cons_of_mem _ hy)) h
    rw [← e3, hl2] at ih
    by_cases h0 : x = 0
    · have ecs : csOf (pre ++ [x]) = csOf pre := by unfold csOf; rw [coins_snoc, if_neg (by omega), List.append_nil]
      rw [ecs] at ih
      refine Evt.step (fun k => ?_) ih
      simp only [vitrineref02_Limit.l1]
      rw [if_pos (by rw [e1]; omega), if_pos (by omega), rd_mid, if_pos h0, nxt _ (by omega)]
    · have ecs : csOf (pre ++ [x]) = insE (.coin x pre.length) (csOf pre) := by unfold csOf; rw [coins_snoc, if_pos (by omega), isort_snoc]
      rw [ecs] at ih
      have hcl : (csOf pre).length ≤ pre.length := by rw [cs_len]; exact coinsFrom_len pre 0
      have h2 := ins_go most (pre ++ x :: rest) many hm pre.length (by omega) (.coin x pre.length) rfl r (csOf pre) [] (by simp; omega) (by simpa using ih)
      refine Evt.step (fun k => ?_) h2
      simp only [vitrineref02_Limit.l1]
      rw [if_pos (by rw [e1]; omega), if_pos (by omega), rd_mid, if_neg h0, if_pos (by omega), if_pos (by rw [Int.toNat_natCast]; omega)]
      simp only [Option.bind_some]
      rw [if_pos (by simp; omega), ← coin_times (pre ++ x :: rest) x pre.length]
      simp
      rfl
theorem coins_one (most : Int) : ∀ (rest pre : List Int), pre.length + rest.length ≤ 288 → (∀ x ∈ rest, 0 ≤ x) → coinsOf pre = [] → (coinsOf (pre ++ rest)).length = 1 →
    Evt (fun k => vitrineref02_Limit.l1 k most (pre ++ rest) 1 (zerosOf (pre ++ rest)) [] pre.length) (addAll (coinsOf (pre ++ rest)) (zerosOf (pre ++ rest)), (0 : Int))
  | [], pre, hl, hx, hp, h1 => by rw [List.append_nil, hp] at h1; simp at h1
  | x :: rest, pre, hl, hx, hp, h1 => by
    simp only [List.length_cons] at hl
    have hx0 := hx x List.mem_cons_self
    have e3 : pre ++ x :: rest = (pre ++ [x]) ++ rest := by simp
    have e1 : ((pre ++ x :: rest).length : Int) = (pre.length : Int) + rest.length + 1 := by simp; omega
    have e1n : (pre ++ x :: rest).length = pre.length + rest.length + 1 := by simp; omega
    have hl2 : (pre ++ [x]).length = pre.length + 1 := by simp
    by_cases h0 : x = 0
    · have ih := coins_one most rest (pre ++ [x]) (by omega) (fun y hy => hx y (List.mem_cons_of_mem _ hy)) (by rw [coins_snoc, hp, if_neg (by omega)]; rfl) (by rw [← e3]; exact h1)
      rw [← e3, hl2] at ih
      refine Evt.step (fun k => ?_) ih
      simp only [vitrineref02_Limit.l1]
      rw [if_pos (by rw [e1]; omega), if_pos (by omega), rd_mid, if_pos h0, nxt _ (by omega)]
    · have hc : coinsOf (pre ++ x :: rest) = [.coin x pre.length] := by
        have h2 : coinsOf (pre ++ x :: rest) = coinsOf (pre ++ [x]) ++ coinsFrom rest (0 + (pre ++ [x]).length) := by rw [e3]; exact coins_app _ _ 0
        rw [coins_snoc, hp, if_pos (by omega)] at h2
        rw [h2] at h1
        simp only [List.nil_append, List.singleton_append, List.length_cons] at h1 h2
        rw [h2, List.eq_nil_of_length_eq_zero (by omega : (coinsFrom rest (0 + (pre ++ [x]).length)).length = 0)]
      rw [hc]
      refine Evt.step (G := fun k => vitrineref02_Limit.l2 k most (pre ++ x :: rest) 1 (zerosOf (pre ++ x :: rest)) [] pre.length 0 x true ((Tr.coin x pre.length).add (zerosOf (pre ++ x :: rest)))) (fun k => ?_) (Evt.now fun k => ?_)
      · simp only [vitrineref02_Limit.l1]
        rw [if_pos (by rw [e1]; omega), if_pos (by omega), rd_mid, if_neg h0, if_pos (by omega), if_pos (by rw [Int.toNat_natCast]; omega)]
        simp only [Option.bind_some]
        rw [if_pos (by simp; omega), ← coin_times (pre ++ x :: rest) x pre.length]
      · simp only [vitrineref02_Limit.l2]
        rw [if_neg (by simp), if_pos (by omega), if_pos (by simp)]
        simp only [Option.bind_some]
        rw [if_pos (by simp), if_pos (by simp), if_pos (by simp), if_pos trivial, if_pos (by omega), if_pos (by rw [zeros_len]; rw [e1]; omega)]
        show some _ = some (addAll [Tr.coin x pre.length] (zerosOf (pre ++ x :: rest)), (0 : Int))
        have : addAll [Tr.coin x pre.length] (zerosOf (pre ++ x :: rest)) = (zerosOf (pre ++ x :: rest)).set ((pre.length : Int)).toNat 1 := by
          show (Tr.coin x pre.length).add _ = _
          rw [coin_times]
          unfold zerosOf
          rw [Int.toNat_natCast]
        rw [this]

/-! Rows. -/
theorem set_mid (a b : List Int) (x v : Int) : (a ++ x :: b).set ((a.length : Int)).toNat v = a ++ v :: b := by
  rw [Int.toNat_natCast, List.set_append_right _ _ (Nat.le_refl _), Nat.sub_self]
  rfl
theorem rd_add (l : List Int) (t : Tr) (s : Nat) (hs : s < l.length) : rd (t.add (zerosOf l)) (s : Int) = cn s t := by
  unfold rd
  rw [Int.toNat_natCast, add_cn s t _ (by rw [zeros_len]; exact hs), zeros_get]
  omega
theorem th_len (l : List Int) (t : Tr) : (th l t).f2.length = l.length := by
  show (t.add (zerosOf l)).length = _
  rw [Tr.add_len, zeros_len]
theorem fill_go (most : Int) (l : List Int) (many x15 : Int) (Z : List Int) (x9 x16 : List S97) (a b : Tr) (pre rest : List Tr) (w : Int) (hN : l.length ≤ 288) (hp : pre.length + rest.length ≤ 10000) (ha : ∀ s, cn s a ≤ 100000) (hb : ∀ s, cn s b ≤ 100000) (h16 : x16.length ≤ 100000) (r : List Int × Int)
    (h : Evt (fun k => vitrineref02_Limit.l4 k most l many Z x9 ((pre ++ a :: b :: rest).map (th l)) x15 (x16 ++ [(⟨w, false, (Tr.pair a b).add (zerosOf l)⟩ : S97)]) ((pre.length + 2 : Nat) : Int)) r) :
    ∀ (d2 d1 : List Int), (Tr.pair a b).add (zerosOf l) = d1 ++ d2 →
    Evt (fun k => vitrineref02_Limit.l5 k most l many Z x9 ((pre ++ a :: b :: rest).map (th l)) x15 x16 pre.length d1.length w false (d1 ++ List.replicate d2.length 0)) r
  | [], d1, hd => by
    have hl : d1.length = l.length := by
      have := congrArg List.length hd
      rw [Tr.add_len, zeros_len] at this
      simpa using this.symm
    rw [List.append_nil] at hd
    refine Evt.step (fun k => ?_) h
    simp only [vitrineref02_Limit.l5]
    rw [if_neg (by omega), if_pos (by omega), w64 _ (by omega), hd]
    simp
  | v :: d2, d1, hd => by
    have hl : d1.length + d2.length + 1 = l.length := by
      have := congrArg List.length hd
      rw [Tr.add_len, zeros_len] at this
      simp at this
      omega
    have ih := fill_go most l many x15 Z x9 x16 a b pre rest w hN hp ha hb h16 r h d2 (d1 ++ [v]) (by simpa using hd)
    have hv : v = cn d1.length a + cn d1.length b := by
      have h1 := rd_add l (.pair a b) d1.length (by omega)
      rw [hd, rd_mid] at h1
      exact h1
    have hlen : (((pre ++ a :: b :: rest).map (th l)).length : Int) = (pre.length : Int) + rest.length + 2 := by rw [map_len]; simp only [List.length_cons]; omega
    have hca := cn_nonneg d1.length a
    have hcb := cn_nonneg d1.length b
    have hca2 := ha d1.length
    have hcb2 := hb d1.length
    refine Evt.step (fun k => ?_) ih
    simp only [vitrineref02_Limit.l5]
    rw [nxt _ (by omega), rdT_mid, rdT_mid2, th_len, th_len, if_pos (by omega), if_pos (by omega), if_pos (by rw [hlen]; omega), if_pos (by omega), if_pos (by omega), if_pos (by omega), if_pos (by rw [hlen]; omega), if_pos (by omega), if_pos (by simp; omega), nxt _ (by omega)]
    have e : wrap64 (rd (th l a).f2 (d1.length : Int) + rd (th l b).f2 (d1.length : Int)) = v := by
      show wrap64 (rd (a.add (zerosOf l)) _ + rd (b.add (zerosOf l)) _) = v
      rw [rd_add l a _ (by omega), rd_add l b _ (by omega), w64 _ (by omega), hv]
    rw [e, List.length_cons, List.replicate_succ, set_mid]
    simp
theorem pairs_go (most : Int) (l : List Int) (many x15 : Int) (Z : List Int) (x9 : List S97) (hN : l.length ≤ 288) (r : List Int × Int) : ∀ (rest pre P : List Tr), pre.length + rest.length ≤ 10000 → P.length + rest.length ≤ 10000 →
    (∀ t ∈ rest, 0 ≤ t.wt ∧ t.wt ≤ 100000000000000 ∧ ∀ s, cn s t ≤ 100000) →
    Evt (fun k => (vitrineref02_row.f k x9 ((P ++ pairs2 rest).map (th l))).bind fun t => vitrineref02_Limit.l3 k most l many Z x9 t (wrap64 (x15 + 1))) r →
    Evt (fun k => vitrineref02_Limit.l4 k most l many Z x9 ((pre ++ rest).map (th l)) x15 (P.map (th l)) pre.length) r
  | [], pre, P, hl, hP, hb, h => by
    refine Evt.step (fun k => ?_) h
    simp only [vitrineref02_Limit.l4]
    rw [nxt _ (by simp at hl; omega), if_neg (by rw [map_len]; simp; omega)]
    simp [pairs2]
  | [a], pre, P, hl, hP, hb, h => by
    refine Evt.step (fun k => ?_) h
    simp only [vitrineref02_Limit.l4]
    rw [nxt _ (by simp at hl; omega), if_neg (by rw [map_len]; simp)]
    simp [pairs2]
  | a :: b :: rest, pre, P, hl, hP, hb, h => by
    simp only [List.length_cons] at hl hP
    have h1 := hb a List.mem_cons_self
    have h2 := hb b (List.mem_cons_of_mem _ List.mem_cons_self)
    have hlen : (((pre ++ a :: b :: rest).map (th l)).length : Int) = (pre.length : Int) + rest.length + 2 := by rw [map_len]; simp only [List.length_cons]; omega
    have ih := pairs_go most l many x15 Z x9 hN r rest (pre ++ [a, b]) (P ++ [.pair a b]) (by simp; omega) (by simp; omega) (fun t ht => hb t (List.mem_cons_of_mem _ (List.mem_cons_of_mem _ ht))) (by
      have e : P ++ pairs2 (a :: b :: rest) = (P ++ [.pair a b]) ++ pairs2 rest := by simp [pairs2]
      rw [e] at h
      exact h)
    have e2 : ((pre ++ [a, b]) ++ rest) = pre ++ a :: b :: rest := by simp
    have e3 : (P ++ [Tr.pair a b]).map (th l) = P.map (th l) ++ [(⟨a.wt + b.wt, false, (Tr.pair a b).add (zerosOf l)⟩ : S97)] := by simp [th, Tr.wt, isC]
    rw [e2, e3, show (pre ++ [a, b]).length = pre.length + 2 by simp] at ih
    have hf := fill_go most l many x15 Z x9 (P.map (th l)) a b pre rest (a.wt + b.wt) hN (by omega) h1.2.2 h2.2.2 (by simp; omega) r ih ((Tr.pair a b).add (zerosOf l)) [] rfl
    rw [Tr.add_len, zeros_len] at hf
    refine Evt.step (fun k => ?_) hf
    simp only [vitrineref02_Limit.l4]
    rw [nxt _ (by omega), if_pos (by rw [hlen]; omega), if_pos (by omega), if_pos (by rw [hlen]; omega), if_pos (by omega), if_pos (by omega), if_pos (by rw [Int.toNat_natCast]; omega), rdT_mid, rdT_mid2, Int.toNat_natCast]
    rw [show wrap64 ((th l a).f0 + (th l b).f0) = a.wt + b.wt from w64 (a.wt + b.wt) (by omega)]
    simp
end Go.Proofs.Ytpldapjcojjicaa.Pure
