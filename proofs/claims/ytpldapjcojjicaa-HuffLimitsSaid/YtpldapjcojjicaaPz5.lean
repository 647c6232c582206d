/- Layer 2 (huff): the document's Limit, in plain Lean: its rows are Limit's rows. -/
import Derived.Test.YtpldapjcojjicaaPw2
import Derived.Test.YtpldapjcojjicaaBn
namespace Go.Proofs.Ytpldapjcojjicaa.Pure
open Go.RowKit Go.Proofs.Ytpldapjcojjicaa.Pl Go.Proofs.Ytpldapjcojjicaa.B Go.Proofs.YtpldapjcojjicaaW.PrintWords Go.Proofs.YtpldapjcojjicaaW.PrintLast Go.Proofs.YtpldapjcojjicaaW.PrintMore
set_option linter.unusedVariables false
set_option linter.unusedSimpArgs false

theorem w64 (n : Int) (h : -9223372036854775808 ≤ n ∧ n ≤ 9223372036854775807) : wrap64 n = n := by unfold wrap64; omega
theorem nxt (i : Nat) (h : i ≤ 1000000) : wrap64 ((i : Int) + 1) = ((i + 1 : Nat) : Int) := by rw [w64 _ (by omega)]; omega
def Evt {α : Type} (F : Nat → Option α) (r : α) : Prop := ∃ K, ∀ k, K ≤ k → F k = some r
theorem Evt.step {α : Type} {F G : Nat → Option α} {r : α} (h : ∀ k, F (k + 1) = G k) (g : Evt G r) : Evt F r := by
  obtain ⟨K, g⟩ := g
  refine ⟨K + 1, fun k hk => ?_⟩
  obtain ⟨j, rfl⟩ : ∃ j, k = j + 1 := ⟨k - 1, by omega⟩
  rw [h]
  exact g j (by omega)
theorem Evt.now {α : Type} {F : Nat → Option α} {r : α} (h : ∀ k, F (k + 1) = some r) : Evt F r := ⟨1, fun k hk => by
  obtain ⟨j, rfl⟩ : ∃ j, k = j + 1 := ⟨k - 1, by omega⟩
  exact h j⟩
theorem Evt.bind {α β : Type} {F : Nat → Option α} {G : Nat → α → Option β} {a : α} {b : β} (h : Evt F a) (g : Evt (fun k => G k a) b) : Evt (fun k => (F k).bind (G k)) b := by
  obtain ⟨K, h⟩ := h
  obtain ⟨L, g⟩ := g
  refine ⟨max K L, fun k hk => ?_⟩
  show (F k).bind (G k) = _
  rw [h k (by omega)]
  exact g k (by omega)

def isC : Tr → Bool
  | .coin _ _ => true
  | .pair _ _ => false
/-- The document's thing of a tree. -/
def th (c : List Int) (t : Tr) : S97 := ⟨t.wt, isC t, t.add (zerosOf c)⟩
theorem rdT_mid (c : List Int) (a : List Tr) (t : Tr) (b : List Tr) : rd_T97 ((a ++ t :: b).map (th c)) (a.length : Int) = th c t := by
  unfold rd_T97
  simp
theorem rdT_mid2 (c : List Int) (a : List Tr) (t u : Tr) (b : List Tr) : rd_T97 ((a ++ t :: u :: b).map (th c)) ((a.length + 1 : Nat) : Int) = th c u := by
  have := rdT_mid c (a ++ [t]) u b
  simpa using this
theorem map_len (c : List Int) (a b : List Tr) : (((a ++ b).map (th c)).length : Int) = (a.length : Int) + (b.length : Int) := by simp
theorem row_go (c : List Int) : ∀ (c2 p2 c1 p1 : List Tr) (x : List S97), x.length + c2.length + p2.length ≤ 100000 → c1.length + c2.length + p1.length + p2.length ≤ 100000 →
    Evt (fun k => vitrineref02_row.l0 k ((c1 ++ c2).map (th c)) ((p1 ++ p2).map (th c)) x c1.length p1.length) (x ++ (mrg c2 p2).map (th c))
  | [], [], c1, p1, x, hx, hb => by
    refine Evt.step (G := fun k => vitrineref02_row.j1 k ((c1 ++ []).map (th c)) ((p1 ++ []).map (th c)) x c1.length p1.length false) (fun k => ?_) (Evt.now fun k => ?_)
    · simp only [vitrineref02_row.l0]
      have hd : decide ((p1.length : Int) < ((List.map (th c) (p1 ++ ([] : List Tr))).length : Int)) = false := by rw [decide_eq_false_iff_not, map_len]; simp
      rw [if_neg (by rw [map_len]; simp), hd]
    · simp only [vitrineref02_row.j1]
      rw [if_neg (by decide), mrg_nil]
      simp
  | t :: c2, [], c1, p1, x, hx, hb => by
    simp only [List.length_cons] at hx hb
    have ih := row_go c c2 [] (c1 ++ [t]) p1 (x ++ [th c t]) (by simp; omega) (by simp; omega)
    rw [mrg_none] at ih
    refine Evt.step (G := fun k => vitrineref02_row.j1 k ((c1 ++ t :: c2).map (th c)) ((p1 ++ []).map (th c)) x c1.length p1.length true) (fun k => ?_) (Evt.step (fun k => ?_) (by rw [mrg_none]; simpa using ih))
    · simp only [vitrineref02_row.l0]
      rw [if_pos (by rw [map_len]; simp only [List.length_cons]; omega)]
    · simp only [vitrineref02_row.j1]
      rw [if_pos trivial, if_pos (by rw [map_len]; simp), if_pos (by omega), if_pos (by rw [map_len]; simp only [List.length_cons]; omega), if_pos (by omega), rdT_mid, nxt _ (by omega)]
      simp <;> rfl
  | [], t :: p2, c1, p1, x, hx, hb => by
    simp only [List.length_cons] at hx hb
    have ih := row_go c [] p2 c1 (p1 ++ [t]) (x ++ [th c t]) (by simp; omega) (by simp; omega)
    rw [mrg_nil] at ih
    refine Evt.step (G := fun k => vitrineref02_row.j1 k ((c1 ++ []).map (th c)) ((p1 ++ t :: p2).map (th c)) x c1.length p1.length true) (fun k => ?_) (Evt.step (fun k => ?_) (by rw [mrg_nil]; simpa using ih))
    · simp only [vitrineref02_row.l0]
      have hd : decide ((p1.length : Int) < ((List.map (th c) (p1 ++ t :: p2)).length : Int)) = true := by rw [decide_eq_true_iff, map_len]; simp only [List.length_cons]; omega
      rw [if_neg (by rw [map_len]; simp), hd]
    · simp only [vitrineref02_row.j1]
      rw [if_pos trivial, if_neg (by rw [map_len]; simp only [List.length_cons]; omega), if_neg (by rw [map_len]; simp), if_pos (by omega), if_pos (by rw [map_len]; simp only [List.length_cons]; omega), if_pos (by omega), rdT_mid, nxt _ (by omega)]
      simp <;> rfl
  | t :: c2, u :: p2, c1, p1, x, hx, hb => by
    simp only [List.length_cons] at hx hb
    refine Evt.step (G := fun k => vitrineref02_row.j1 k ((c1 ++ t :: c2).map (th c)) ((p1 ++ u :: p2).map (th c)) x c1.length p1.length true) (fun k => ?_) ?_
    · simp only [vitrineref02_row.l0]
      rw [if_pos (by rw [map_len]; simp only [List.length_cons]; omega)]
    · by_cases h : t.wt ≤ u.wt
      · have ih := row_go c c2 (u :: p2) (c1 ++ [t]) p1 (x ++ [th c t]) (by simp; omega) (by simp; omega)
        refine Evt.step (fun k => ?_) (by rw [mrg_coin h]; simpa using ih)
        simp only [vitrineref02_row.j1]
        rw [if_pos trivial, if_neg (by rw [map_len]; simp only [List.length_cons]; omega), if_pos (by rw [map_len]; simp only [List.length_cons]; omega), if_pos (by omega), if_pos (by omega), if_pos (by rw [map_len]; simp only [List.length_cons]; omega), rdT_mid, rdT_mid, if_pos (show (th c t).f0 ≤ (th c u).f0 from h), if_pos (by omega), nxt _ (by omega)]
        simp <;> rfl
      · have ih := row_go c (t :: c2) p2 c1 (p1 ++ [u]) (x ++ [th c u]) (by simp; omega) (by simp; omega)
        refine Evt.step (fun k => ?_) (by rw [mrg_pair h]; simpa using ih)
        simp only [vitrineref02_row.j1]
        rw [if_pos trivial, if_neg (by rw [map_len]; simp only [List.length_cons]; omega), if_pos (by rw [map_len]; simp only [List.length_cons]; omega), if_pos (by omega), if_pos (by omega), if_pos (by rw [map_len]; simp only [List.length_cons]; omega), rdT_mid, rdT_mid, if_neg (show ¬ (th c t).f0 ≤ (th c u).f0 from h), if_pos (by omega), nxt _ (by omega)]
        simp <;> rfl
termination_by c2 p2 => c2.length + p2.length
theorem row_is (c : List Int) (cs ps : List Tr) (h : cs.length + ps.length ≤ 10000) : Evt (fun k => vitrineref02_row.f k (cs.map (th c)) (ps.map (th c))) ((mrg cs ps).map (th c)) := by
  have := row_go c cs ps [] [] [] (by simp; omega) (by simp; omega)
  simpa [vitrineref02_row.f] using this

/-! The coins. -/
def insE (x : Tr) : List Tr → List Tr
  | [] => [x]
  | y :: l => if y.wt ≤ x.wt then y :: insE x l else x :: y :: l
theorem ins_swap (a x : Tr) : ∀ m : List Tr, insF Tr.wt a (insE x m) = insE x (insF Tr.wt a m)
  | [] => by
    simp only [insE, insF]
  | y :: m => by
    have ih := ins_swap a x m
    by_cases h1 : y.wt ≤ x.wt
    · by_cases h2 : a.wt ≤ y.wt
      · simp only [insE, insF, if_pos h1, if_pos h2, if_pos (show a.wt ≤ x.wt by omega)]
      · simp only [insE, insF, if_pos h1, if_neg h2, ih]
    · by_cases h2 : a.wt ≤ y.wt
      · by_cases h3 : a.wt ≤ x.wt
        · simp only [insE, insF, if_neg h1, if_pos h2, if_pos h3]
        · simp only [insE, insF, if_neg h1, if_pos h2, if_neg h3]
      · simp only [insE, insF, if_neg h1, if_neg h2, if_neg (show ¬ a.wt ≤ x.wt by omega)]
theorem isort_snoc (x : Tr) : ∀ l : List Tr, isort Tr.wt (l ++ [x]) = insE x (isort Tr.wt l)
  | [] => rfl
  | a :: l => by
    show insF Tr.wt a (isort Tr.wt (l ++ [x])) = insE x (insF Tr.wt a (isort Tr.wt l))
    rw [isort_snoc x l, ins_swap]
theorem coins_app : ∀ (a b : List Int) (i : Nat), coinsFrom (a ++ b) i = coinsFrom a i ++ coinsFrom b (i + a.length)
  | [], b, i => by simp [coinsFrom]
  | x :: a, b, i => by
    rw [List.cons_append, coinsFrom_cons, coinsFrom_cons, coins_app a b (i + 1), List.length_cons, show i + 1 + a.length = i + (a.length + 1) by omega]
    split <;> rfl
theorem coins_snoc (pre : List Int) (x : Int) : coinsOf (pre ++ [x]) = coinsOf pre ++ if 0 < x then [Tr.coin x pre.length] else [] := by
  unfold coinsOf
  rw [coins_app, coinsFrom_cons, Nat.zero_add]
  split <;> simp [coinsFrom]
theorem rd_mid (pre : List Int) (x : Int) (r : List Int) : rd (pre ++ x :: r) (pre.length : Int) = x := by
  unfold rd
  simp
theorem count_go (most : Int) (r : List Int × Int) : ∀ (rest pre : List Int), pre.length + rest.length ≤ 288 → rest.any badCount = false →
    Evt (fun k => vitrineref02_Limit.l0 k most (pre ++ rest) ((coinsOf (pre ++ rest)).length : Nat) ((pre ++ rest).length : Nat)) r →
    Evt (fun k => vitrineref02_Limit.l0 k most (pre ++ rest) ((coinsOf pre).length : Nat) (pre.length : Nat)) r
  | [], pre, hl, hb, h => by simpa using h
  | x :: rest, pre, hl, hb, h => by
    simp only [List.length_cons] at hl
    rw [List.any_cons, Bool.or_eq_false_iff] at hb
    have hx : 0 ≤ x ∧ x ≤ 1000000000 := by have := hb.1; unfold badCount at this; simp at this; exact this
    have e3 : pre ++ x :: rest = (pre ++ [x]) ++ rest := by simp
    have e1 : ((pre ++ x :: rest).length : Int) = (pre.length : Int) + rest.length + 1 := by simp; omega
    have hcl : (coinsOf pre).length ≤ pre.length := coinsFrom_len pre 0
    have hl2 : (pre ++ [x]).length = pre.length + 1 := by simp
    rw [e3] at h
    have ih := count_go most r rest (pre ++ [x]) (by omega) hb.2 h
    refine Evt.step (G := fun k => vitrineref02_Limit.j2 k most (pre ++ x :: rest) ((coinsOf pre).length : Nat) (pre.length : Nat) false) (fun k => ?_) (Evt.step (fun k => ?_) ih)
    · simp only [vitrineref02_Limit.l0]
      rw [if_pos (by rw [e1]; omega), if_pos (by omega), rd_mid, if_neg (by omega), show decide (x > 1000000000) = false by rw [decide_eq_false_iff_not]; omega]
    · simp only [vitrineref02_Limit.j2]
      rw [if_neg (by decide), if_pos (by omega), if_pos (by rw [e1]; omega), rd_mid, nxt _ (by omega), nxt _ (by omega), hl2, ← e3, coins_snoc]
      by_cases h0 : 0 < x
      · rw [if_pos h0, if_pos h0]
        simp
      · rw [if_neg h0, if_neg h0]
        simp
theorem count_bad (most : Int) : ∀ (rest pre : List Int), pre.length + rest.length ≤ 288 → rest.any badCount = true →
    Evt (fun k => vitrineref02_Limit.l0 k most (pre ++ rest) ((coinsOf pre).length : Nat) (pre.length : Nat)) (([] : List Int), (1 : Int))
  | [], pre, hl, hb => by simp at hb
  | x :: rest, pre, hl, hb => by
    simp only [List.length_cons] at hl
    have e3 : pre ++ x :: rest = (pre ++ [x]) ++ rest := by simp
    have e1 : ((pre ++ x :: rest).length : Int) = (pre.length : Int) + rest.length + 1 := by simp; omega
    have hcl : (coinsOf pre).length ≤ pre.length := coinsFrom_len pre 0
    have hl2 : (pre ++ [x]).length = pre.length + 1 := by simp
    by_cases hx : badCount x = true
    · refine Evt.step (G := fun k => vitrineref02_Limit.j2 k most (pre ++ x :: rest) ((coinsOf pre).length : Nat) (pre.length : Nat) true) (fun k => ?_) (Evt.now fun k => ?_)
      · simp only [vitrineref02_Limit.l0]
        rw [if_pos (by rw [e1]; omega), if_pos (by omega), rd_mid]
        unfold badCount at hx
        simp at hx
        by_cases h0 : x < 0
        · rw [if_pos h0]
        · rw [if_neg h0, show decide (x > 1000000000) = true by rw [decide_eq_true_iff]; omega]
      · simp only [vitrineref02_Limit.j2]
        rw [if_pos trivial]
    · have hx' : 0 ≤ x ∧ x ≤ 1000000000 := by unfold badCount at hx; simp at hx; exact hx
      rw [List.any_cons] at hb
      have ih := count_bad most rest (pre ++ [x]) (by omega) (by simpa [hx] using hb)
      refine Evt.step (G := fun k => vitrineref02_Limit.j2 k most (pre ++ x :: rest) ((coinsOf pre).length : Nat) (pre.length : Nat) false) (fun k => ?_) (Evt.step (fun k => ?_) ih)
      · simp only [vitrineref02_Limit.l0]
        rw [if_pos (by rw [e1]; omega), if_pos (by omega), rd_mid, if_neg (by omega), show decide (x > 1000000000) = false by rw [decide_eq_false_iff_not]; omega]
      · simp only [vitrineref02_Limit.j2]
        rw [if_neg (by decide), if_pos (by omega), if_pos (by rw [e1]; omega), rd_mid, nxt _ (by omega), nxt _ (by omega), hl2, ← e3, coins_snoc]
        by_cases h0 : 0 < x
        · rw [if_pos h0, if_pos h0]
          simp
        · rw [if_neg h0, if_neg h0]
          simp
end Go.Proofs.Ytpldapjcojjicaa.Pure
