/- Layer 4 (lz): the document's function, printed, comes to 'toks'. -/
import Derived.Test.YtlhgdkaaomdipaaM1
namespace Go.Proofs.Ytlhgdkaaomdipaa.Tok
open Go.RowKit Go.Proofs.YtlhgdkaaomdipaaW.PrintWords Go.Proofs.Ytlhgdkaaomdipaa.Pr
set_option linter.unusedVariables false

theorem ref_l2 (d : ByteArray) (hsz : d.size ≤ 20000) (out : List S34) (i b f x7 : Nat) (h7 : 1 ≤ x7) (h7i : x7 ≤ i) (r : List S34) : ∀ n, n ≤ 258 → i + n ≤ d.size →
    Ev (fun k => vitrineref04_Tokens.l1 k d out (i : Int) ((if b < mrun d i (i - x7) n then mrun d i (i - x7) n else b : Nat) : Int) ((if b < mrun d i (i - x7) n then x7 else f : Nat) : Int) ((x7 + 1 : Nat) : Int)) r →
    Ev (fun k => vitrineref04_Tokens.l2 k d out (i : Int) (b : Int) (f : Int) (x7 : Int) (n : Int)) r := by
  intro n hn hin h
  have e1 : wrap64 ((i : Int) + (n : Int)) = ((i + n : Nat) : Int) := by rw [w64 _ (by omega)]; omega
  have e2 : wrap64 (((i + n : Nat) : Int) - (x7 : Int)) = ((i - x7 + n : Nat) : Int) := by rw [w64 _ (by omega)]; omega
  have e3 : wrap64 ((n : Int) + 1) = ((n + 1 : Nat) : Int) := by rw [w64 _ (by omega)]; omega
  have e4 : wrap64 ((x7 : Int) + 1) = ((x7 + 1 : Nat) : Int) := by rw [w64 _ (by omega)]; omega
  have last : ¬ (n < 258 ∧ i + n < d.size ∧ bt d ((i + n : Nat) : Int) = bt d ((i - x7 + n : Nat) : Int)) →
      Ev (fun k => if (n : Int) > (b : Int) then vitrineref04_Tokens.l1 k d out (i : Int) (n : Int) (x7 : Int) (wrap64 ((x7 : Int) + 1)) else vitrineref04_Tokens.l1 k d out (i : Int) (b : Int) (f : Int) (wrap64 ((x7 : Int) + 1))) r := by
    intro hc
    rw [mrun_stop hc] at h
    by_cases hb : b < n
    · simp only [if_pos hb] at h
      refine Ev.congr (fun k => ?_) h
      rw [if_pos (by omega), e4]
    · simp only [if_neg hb] at h
      refine Ev.congr (fun k => ?_) h
      rw [if_neg (by omega), e4]
  by_cases c1 : n < 258
  · by_cases c2 : i + n < d.size
    · by_cases c3 : bt d ((i + n : Nat) : Int) = bt d ((i - x7 + n : Nat) : Int)
      · rw [← mrun_step c1 c2 c3] at h
        refine Ev.step (fun k => ?_) (ref_l2 d hsz out i b f x7 h7 h7i r (n + 1) (by omega) (by omega) h)
        simp only [vitrineref04_Tokens.l2]
        rw [if_pos (by omega), e1, if_pos (by omega), if_pos (by omega), e2, if_pos (by omega), if_pos (by omega), if_pos c3, e3]
      · refine Ev.step (fun k => ?_) (last (fun h => c3 h.2.2))
        simp only [vitrineref04_Tokens.l2]
        rw [if_pos (by omega), e1, if_pos (by omega), if_pos (by omega), e2, if_pos (by omega), if_pos (by omega), if_neg c3]
    · refine Ev.step (fun k => ?_) (last (fun h => c2 h.2.1))
      simp only [vitrineref04_Tokens.l2]
      rw [if_pos (by omega), e1, if_neg (by omega)]
  · refine Ev.step (fun k => ?_) (last (fun h => c1 h.1))
    simp only [vitrineref04_Tokens.l2]
    rw [if_neg (by omega)]
termination_by n => 258 - n

/-- Behind the search: a token is laid. -/
theorem ref_fin (d : ByteArray) (hsz : d.size ≤ 20000) (out : List S34) (ho : out.length ≤ 20000) (i b f x7 : Nat) (hi : i < d.size) (hb : i + b ≤ d.size) (r : List S34)
    (h : Ev (fun k => if 3 ≤ b then vitrineref04_Tokens.l0 k d (out ++ [⟨0, (b : Int), (f : Int)⟩]) ((i + b : Nat) : Int) else vitrineref04_Tokens.l0 k d (out ++ [⟨bt d (i : Int), 0, 0⟩]) ((i + 1 : Nat) : Int)) r) :
    Ev (fun k => vitrineref04_Tokens.j2 k d out (i : Int) (b : Int) (f : Int) (x7 : Int) false) r := by
  have e1 : wrap64 ((i : Int) + (b : Int)) = ((i + b : Nat) : Int) := by rw [w64 _ (by omega)]; omega
  have e2 : wrap64 ((i : Int) + 1) = ((i + 1 : Nat) : Int) := by rw [w64 _ (by omega)]; omega
  have e3 : wrap64 (bt d (i : Int)) = bt d (i : Int) := by have := bt_range d (i : Int); exact w64 _ (by omega)
  refine Ev.step (fun k => ?_) h
  simp only [vitrineref04_Tokens.j2]
  rw [if_neg (by simp)]
  by_cases h3 : 3 ≤ b
  · rw [if_pos (by omega), if_pos (by omega), if_pos h3, e1]
  · rw [if_neg (by omega), if_pos (by omega), if_pos (by omega), if_pos (by omega), if_neg h3, e2, e3]

theorem ref_l1 (d : ByteArray) (hsz : d.size ≤ 20000) (out : List S34) (ho : out.length ≤ 20000) (i : Nat) (hi : i < d.size) (r : List S34) : ∀ m b f, m ≤ i → i + b ≤ d.size → b ≤ 258 →
    Ev (fun k => if 3 ≤ (rfold d i m b f).1 then vitrineref04_Tokens.l0 k d (out ++ [⟨0, ((rfold d i m b f).1 : Int), ((rfold d i m b f).2 : Int)⟩]) ((i + (rfold d i m b f).1 : Nat) : Int) else vitrineref04_Tokens.l0 k d (out ++ [⟨bt d (i : Int), 0, 0⟩]) ((i + 1 : Nat) : Int)) r →
    Ev (fun k => vitrineref04_Tokens.l1 k d out (i : Int) (b : Int) (f : Int) ((i - m + 1 : Nat) : Int)) r := by
  intro m
  induction m with
  | zero =>
    intro b f hm hb1 hb2 h
    unfold rfold at h
    have h2 := ref_fin d hsz out ho i b f (i - 0 + 1) hi hb1 r h
    by_cases h5 : i - 0 + 1 ≤ 512
    · refine Ev.step (fun k => ?_) h2
      simp only [vitrineref04_Tokens.l1]
      rw [if_pos (by omega)]
      congr 1
      exact decide_eq_false (by omega)
    · refine Ev.step (fun k => ?_) h2
      simp only [vitrineref04_Tokens.l1]
      rw [if_neg (by omega)]
  | succ m ih =>
    intro b f hm hb1 hb2 h
    have e : i - (m + 1) + 1 = i - m := by omega
    rw [e]
    have hbd := mrun_bd d i m 0 (by omega) (by omega)
    by_cases h5 : i - m ≤ 512
    · unfold rfold at h
      rw [if_pos h5] at h
      have h2 : Ev (fun k => vitrineref04_Tokens.l2 k d out (i : Int) (b : Int) (f : Int) ((i - m : Nat) : Int) ((0 : Nat) : Int)) r := by
        refine ref_l2 d hsz out i b f (i - m) (by omega) (by omega) r 0 (by omega) (by omega) ?_
        have e2 : i - (i - m) = m := by omega
        rw [e2]
        by_cases hlt : b < mrun d i m 0
        · simp only [if_pos hlt] at h ⊢
          exact ih _ _ (by omega) (by omega) (by omega) h
        · simp only [if_neg hlt] at h ⊢
          exact ih _ _ (by omega) hb1 hb2 h
      refine Ev.step (f := fun k => vitrineref04_Tokens.j2 k d out (i : Int) (b : Int) (f : Int) ((i - m : Nat) : Int) true) (fun k => ?_) (Ev.step (fun k => ?_) h2)
      · simp only [vitrineref04_Tokens.l1]
        rw [if_pos (by omega)]
        congr 1
        exact decide_eq_true (by omega)
      · simp only [vitrineref04_Tokens.j2]
        simp only [if_true]; rfl
    · rw [rfold_far d i (m + 1) b f hm (by omega)] at h
      have h2 := ref_fin d hsz out ho i b f (i - m) hi hb1 r h
      refine Ev.step (fun k => ?_) h2
      simp only [vitrineref04_Tokens.l1]
      rw [if_neg (by omega)]

theorem ref_l0 (d : ByteArray) (hsz : d.size ≤ 20000) : ∀ (i : Nat) (out : List S34), i ≤ d.size → out.length ≤ i → Ev (fun k => vitrineref04_Tokens.l0 k d out (i : Int)) (out ++ toks d i) := by
  intro i out hi ho
  by_cases h : i < d.size
  · have hb := best_bd d i hi
    have hl := like_best d i hi
    refine Ev.step (f := fun k => vitrineref04_Tokens.l1 k d out (i : Int) ((0 : Nat) : Int) ((0 : Nat) : Int) ((i - i + 1 : Nat) : Int)) (fun k => ?_) ?_
    · simp only [vitrineref04_Tokens.l0]
      rw [if_pos (by omega)]
      simp
    · refine ref_l1 d hsz out (by omega) i h _ i 0 0 (Nat.le_refl _) (by omega) (by omega) ?_
      unfold toks
      rw [dif_pos h]
      rcases hl with ⟨h1, h2⟩ | h1
      · rw [dif_pos h2]
        have h3 := ref_l0 d hsz (i + 1) (out ++ [⟨bt d (i : Int), 0, 0⟩]) (by omega) (by simp; omega)
        rw [List.append_assoc] at h3
        refine Ev.congr (fun k => ?_) h3
        rw [if_neg (by omega)]
      · rw [h1]
        by_cases h3 : (best d i).1 < 3
        · rw [dif_pos h3]
          have h4 := ref_l0 d hsz (i + 1) (out ++ [⟨bt d (i : Int), 0, 0⟩]) (by omega) (by simp; omega)
          rw [List.append_assoc] at h4
          refine Ev.congr (fun k => ?_) h4
          rw [if_neg (by omega)]
        · rw [dif_neg h3]
          have h4 := ref_l0 d hsz (i + (best d i).1) (out ++ [⟨0, ((best d i).1 : Int), ((best d i).2 : Int)⟩]) (by omega) (by simp; omega)
          rw [List.append_assoc] at h4
          refine Ev.congr (fun k => ?_) h4
          rw [if_pos (by omega)]
  · have ht : toks d i = [] := by unfold toks; rw [dif_neg h]
    rw [ht, List.append_nil]
    refine Ev.step (fun k => ?_) (Ev.now out)
    simp only [vitrineref04_Tokens.l0]
    rw [if_neg (by omega)]
termination_by i => d.size - i

theorem ref_toks (d : ByteArray) (hsz : d.size ≤ 20000) : Ev (fun k => vitrineref04_Tokens.f k d) (toks d 0) := ref_l0 d hsz 0 [] (Nat.zero_le _) (Nat.le_refl _)

/-! ### The chapter's two texts -/
theorem toks_of_ref {d : ByteArray} (hsz : d.size ≤ 20000) {k : Nat} {l : List S34} (h : vitrineref04_Tokens.f k d = some l) : toks d 0 = l := by
  obtain ⟨K, hK⟩ := ref_toks d hsz
  have h1 := hK (max K k) (Nat.le_max_left _ _)
  have h2 := at_rounds (g := fun k => vitrineref04_Tokens.f k d) (vitrineref04_Tokens.mono d) (Nat.le_max_right K k) h
  exact Option.some.inj (h1.symm.trans h2)
theorem tok_a : lz_Tokens.f (⟨#[97, 98, 99, 97, 98, 99, 97, 98]⟩ : ByteArray) = some [⟨97, 0, 0⟩, ⟨98, 0, 0⟩, ⟨99, 0, 0⟩, ⟨0, 5, 3⟩] := by
  unfold lz_Tokens.f
  rw [if_pos (by decide), toks_of_ref (d := ⟨#[97, 98, 99, 97, 98, 99, 97, 98]⟩) (k := 200) (by decide) (show vitrineref04_Tokens.f 200 ⟨#[97, 98, 99, 97, 98, 99, 97, 98]⟩ = some [⟨97, 0, 0⟩, ⟨98, 0, 0⟩, ⟨99, 0, 0⟩, ⟨0, 5, 3⟩] by kernel_rfl)]
theorem tok_b : lz_Tokens.f (⟨#[97, 97, 97, 97]⟩ : ByteArray) = some [⟨97, 0, 0⟩, ⟨0, 3, 1⟩] := by
  unfold lz_Tokens.f
  rw [if_pos (by decide), toks_of_ref (d := ⟨#[97, 97, 97, 97]⟩) (k := 100) (by decide) (show vitrineref04_Tokens.f 100 ⟨#[97, 97, 97, 97]⟩ = some [⟨97, 0, 0⟩, ⟨0, 3, 1⟩] by kernel_rfl)]

end Go.Proofs.Ytlhgdkaaomdipaa.Tok
