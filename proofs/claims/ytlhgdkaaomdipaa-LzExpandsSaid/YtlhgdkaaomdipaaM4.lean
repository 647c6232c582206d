/- Layer 4 (lz): what tokens say, as both programs have it; the tokens of bytes say these bytes. Plain lists and numbers. -/
import Derived.Test.YtlhgdkaaomdipaaM3
import Derived.Test.YtlhgdkaaomdipaaPr4
namespace Go.Proofs.Ytlhgdkaaomdipaa.Tok
open Go.RowKit Go.Proofs.YtlhgdkaaomdipaaW.PrintWords Go.Proofs.Ytlhgdkaaomdipaa.Pr
set_option linter.unusedVariables false

/-- n bytes more, each the one that stands t before it. -/
def copyN (t : Nat) : Nat → List Int → List Int
  | 0, out => out
  | n + 1, out => copyN t n (out ++ [out.getD (out.length - t) 0])
theorem copyN_len (t : Nat) : ∀ n out, (copyN t n out).length = out.length + n
  | 0, _ => rfl
  | n + 1, out => by rw [copyN, copyN_len t n]; simp; omega

/-- Is it a token? -/
def isTok (t : S34) : Bool := if t.f1 = 0 then decide (t.f2 = 0 ∧ 0 ≤ t.f0 ∧ t.f0 ≤ 255) else decide (t.f0 = 0 ∧ 3 ≤ t.f1 ∧ t.f1 ≤ 258 ∧ 1 ≤ t.f2 ∧ t.f2 ≤ 32768)

/-- What tokens say. -/
def say : List S34 → List Int → ByteArray × Int
  | [], out => (strOfNums out, 0)
  | t :: r, out => if isTok t then (if t.f1 = 0 then say r (out ++ [t.f0]) else if t.f2 > (out.length : Int) then (⟨#[]⟩, 15) else say r (copyN t.f2.toNat t.f1.toNat out)) else (⟨#[]⟩, 1)

theorem rd_at {l : List S34} {i : Nat} (h : i < l.length) : rd_T34 l (i : Int) = l[i] := by
  unfold rd_T34
  simp [List.getD, h]

theorem drop_at {l : List S34} {i : Nat} (h : i < l.length) : l.drop i = l[i] :: l.drop (i + 1) := List.drop_eq_getElem_cons h

theorem exp_l1 (l : List S34) (len i : Int) (a b c : Int) (r : ByteArray × Int) (hc : 1 ≤ c) (hb : b ≤ 258) : ∀ (m : Nat) (out : List Int) (x : Int), x = b - m → (m : Int) ≤ b → out.length + m ≤ 10000000 → c ≤ out.length →
    Ev (fun k => lz_Expand.l0 k (copyN c.toNat m out) l len (wrap64 (i + 1))) r → Ev (fun k => lz_Expand.l1 k out l len i b x a b c) r := by
  intro m
  induction m with
  | zero =>
    intro out x hx hm hlen hcl h
    refine Ev.step (fun k => ?_) h
    simp only [lz_Expand.l1]
    rw [if_neg (by omega)]
    rfl
  | succ m ih =>
    intro out x hx hm hlen hcl h
    have e1 : wrap64 ((out.length : Int) - c) = (out.length : Int) - c := w64 _ (by omega)
    have e2 : wrap64 (x + 1) = x + 1 := w64 _ (by omega)
    refine Ev.step (fun k => ?_) (ih (out ++ [rd out ((out.length : Int) - c)]) (x + 1) (by omega) (by omega) (by simp; omega) (by simp; omega) ?_)
    · simp only [lz_Expand.l1]
      rw [if_pos (by omega), e1, if_pos (by omega), if_pos (by omega), if_pos (by omega), e2]
    · unfold copyN at h
      have e3 : rd out ((out.length : Int) - c) = out.getD (out.length - c.toNat) 0 := by
        unfold rd
        congr 1
        omega
      rw [e3]
      exact h

theorem rexp_l1 (l : List S34) (i : Int) (a b c : Int) (r : ByteArray × Int) (hc : 1 ≤ c) (hb : b ≤ 258) : ∀ (m : Nat) (out : List Int) (x : Int), x = b - m → (m : Int) ≤ b → out.length + m ≤ 10000000 → c ≤ out.length →
    Ev (fun k => vitrineref04_Expand.l0 k l (copyN c.toNat m out) (wrap64 (i + 1))) r → Ev (fun k => vitrineref04_Expand.l1 k l out i x a b c) r := by
  intro m
  induction m with
  | zero =>
    intro out x hx hm hlen hcl h
    refine Ev.step (fun k => ?_) h
    simp only [vitrineref04_Expand.l1]
    rw [if_neg (by omega)]
    rfl
  | succ m ih =>
    intro out x hx hm hlen hcl h
    have e1 : wrap64 ((out.length : Int) - c) = (out.length : Int) - c := w64 _ (by omega)
    have e2 : wrap64 (x + 1) = x + 1 := w64 _ (by omega)
    refine Ev.step (fun k => ?_) (ih (out ++ [rd out ((out.length : Int) - c)]) (x + 1) (by omega) (by omega) (by simp; omega) (by simp; omega) ?_)
    · simp only [vitrineref04_Expand.l1]
      rw [if_pos (by omega), e1, if_pos (by omega), if_pos (by omega), if_pos (by omega), e2]
    · unfold copyN at h
      have e3 : rd out ((out.length : Int) - c) = out.getD (out.length - c.toNat) 0 := by
        unfold rd
        congr 1
        omega
      rw [e3]
      exact h

theorem isTok_lit {t : S34} (h : t.f1 = 0) : isTok t = true ↔ t.f2 = 0 ∧ 0 ≤ t.f0 ∧ t.f0 ≤ 255 := by
  unfold isTok
  rw [if_pos h]
  simp
theorem isTok_match {t : S34} (h : ¬ t.f1 = 0) : isTok t = true ↔ t.f0 = 0 ∧ 3 ≤ t.f1 ∧ t.f1 ≤ 258 ∧ 1 ≤ t.f2 ∧ t.f2 ≤ 32768 := by
  unfold isTok
  rw [if_neg h]
  simp

/-- What the program's second switch tells: no token, too far, or a copy. -/
theorem exp_j2 (l : List S34) (len i : Int) (out : List Int) (t : S34) (bad : Bool) (r : ByteArray × Int) (hol : out.length ≤ 9000000) (hbad : bad = false → t.f1 ≤ 258 ∧ 3 ≤ t.f1 ∧ 1 ≤ t.f2)
    (h : if bad = true then r = (⟨#[]⟩, 1) else if t.f2 > (out.length : Int) then r = (⟨#[]⟩, 15) else Ev (fun k => lz_Expand.l0 k (copyN t.f2.toNat t.f1.toNat out) l len (wrap64 (i + 1))) r) :
    Ev (fun k => lz_Expand.j2 k out l len i bad t.f0 t.f1 t.f2) r := by
  by_cases hb : bad = true
  · rw [if_pos hb] at h
    subst h
    refine Ev.step (fun k => ?_) (Ev.now _)
    simp only [lz_Expand.j2]
    rw [if_pos hb]
  · rw [if_neg hb] at h
    have hbd := hbad (by simpa using hb)
    by_cases hf : t.f2 > (out.length : Int)
    · rw [if_pos hf] at h
      subst h
      refine Ev.step (fun k => ?_) (Ev.now _)
      simp only [lz_Expand.j2]
      rw [if_neg hb, if_pos hf]
    · rw [if_neg hf] at h
      refine Ev.step (fun k => ?_) (exp_l1 l len i t.f0 t.f1 t.f2 r (by omega) (by omega) t.f1.toNat out 0 (by omega) (by omega) (by omega) (by omega) h)
      simp only [lz_Expand.j2]
      rw [if_neg hb, if_neg hf]

theorem exp_l0 (l : List S34) (hl : l.length ≤ 20000) : ∀ (m i : Nat) (out : List Int), i + m = l.length → out.length ≤ 300 * i → Ev (fun k => lz_Expand.l0 k out l (l.length : Int) (i : Int)) (say (l.drop i) out) := by
  intro m
  induction m with
  | zero =>
    intro i out hi ho
    have e : l.drop i = [] := List.drop_eq_nil_of_le (by omega)
    rw [e]
    refine Ev.step (fun k => ?_) (Ev.now _)
    simp only [lz_Expand.l0]
    rw [if_neg (by omega)]
    rfl
  | succ m ih =>
    intro i out hi ho
    have hlt : i < l.length := by omega
    have e4 : wrap64 ((i : Int) + 1) = ((i + 1 : Nat) : Int) := by rw [w64 _ (by omega)]; omega
    obtain ⟨t, ht⟩ : ∃ t, t = l[i] := ⟨_, rfl⟩
    have hrd : rd_T34 l (i : Int) = t := by rw [rd_at hlt, ht]
    rw [drop_at hlt, ← ht]
    -- the first switch
    have key : ∀ yes : Bool, (yes = true ↔ (t.f1 = 0 ∧ t.f2 = 0 ∧ 0 ≤ t.f0 ∧ t.f0 < 256)) → Ev (fun k => lz_Expand.j1 k out l (l.length : Int) (i : Int) yes t.f0 t.f1 t.f2) (say (t :: l.drop (i + 1)) out) := by
      intro yes hy
      unfold say
      by_cases hyes : yes = true
      · obtain ⟨h1, h2, h3, h4⟩ := hy.1 hyes
        rw [if_pos ((isTok_lit h1).2 ⟨h2, h3, by omega⟩), if_pos h1]
        refine Ev.step (fun k => ?_) (ih (i + 1) (out ++ [t.f0]) (by omega) (by simp; omega))
        simp only [lz_Expand.j1]
        rw [if_pos hyes, if_pos (by omega), e4, Int.emod_eq_of_lt h3 (by omega)]
      · have hn : ¬ (t.f1 = 0 ∧ t.f2 = 0 ∧ 0 ≤ t.f0 ∧ t.f0 < 256) := fun h => hyes (hy.2 h)
        have fin : ∀ bad : Bool, (bad = true ↔ ¬ (t.f0 = 0 ∧ 3 ≤ t.f1 ∧ t.f1 ≤ 258 ∧ 1 ≤ t.f2 ∧ t.f2 ≤ 32768)) → Ev (fun k => lz_Expand.j2 k out l (l.length : Int) (i : Int) bad t.f0 t.f1 t.f2) (if isTok t = true then (if t.f1 = 0 then say (l.drop (i + 1)) (out ++ [t.f0]) else if t.f2 > (out.length : Int) then (⟨#[]⟩, 15) else say (l.drop (i + 1)) (copyN t.f2.toNat t.f1.toNat out)) else (⟨#[]⟩, 1)) := by
          intro bad hbad
          have hgood : bad = false → t.f0 = 0 ∧ 3 ≤ t.f1 ∧ t.f1 ≤ 258 ∧ 1 ≤ t.f2 ∧ t.f2 ≤ 32768 := fun hb => by
            refine Classical.byContradiction fun hc => ?_
            rw [hbad.2 hc] at hb
            cases hb
          refine exp_j2 l _ _ out t bad _ (by omega) (fun hb => by have := hgood hb; omega) ?_
          by_cases hb : bad = true
          · rw [if_pos hb]
            have h5 := hbad.1 hb
            have : ¬ isTok t = true := by
              by_cases h1 : t.f1 = 0
              · rw [isTok_lit h1]; omega
              · rw [isTok_match h1]; exact h5
            rw [if_neg this]
          · rw [if_neg hb]
            have h5 := hgood (by simpa using hb)
            have h1 : ¬ t.f1 = 0 := by omega
            rw [if_pos ((isTok_match h1).2 h5), if_neg h1]
            split
            · rfl
            · rw [e4]
              exact ih (i + 1) _ (by omega) (by rw [copyN_len]; omega)
        by_cases g0 : t.f0 = 0
        · by_cases g1 : t.f1 < 3
          · refine Ev.step (fun k => ?_) (fin true (by simp; omega))
            simp only [lz_Expand.j1]
            rw [if_neg hyes, if_pos g0, if_pos g1]
          · by_cases g2 : t.f1 > 258
            · refine Ev.step (fun k => ?_) (fin true (by simp; omega))
              simp only [lz_Expand.j1]
              rw [if_neg hyes, if_pos g0, if_neg g1, if_pos g2]
            · by_cases g3 : t.f2 < 1
              · refine Ev.step (fun k => ?_) (fin true (by simp; omega))
                simp only [lz_Expand.j1]
                rw [if_neg hyes, if_pos g0, if_neg g1, if_neg g2, if_pos g3]
              · refine Ev.step (fun k => ?_) (fin (decide (t.f2 > 32768)) (by simp; omega))
                simp only [lz_Expand.j1]
                rw [if_neg hyes, if_pos g0, if_neg g1, if_neg g2, if_neg g3]
        · refine Ev.step (fun k => ?_) (fin true (by simp; omega))
          simp only [lz_Expand.j1]
          rw [if_neg hyes, if_neg g0]
    by_cases c1 : (t.f1 == 0 && (t.f2 == 0)) = true
    · have c1' : t.f1 = 0 ∧ t.f2 = 0 := by simpa using c1
      by_cases c2 : t.f0 ≥ 0
      · refine Ev.step (fun k => ?_) (key (decide (t.f0 < 256)) (by simp; omega))
        simp only [lz_Expand.l0]
        rw [if_pos (by omega), if_pos (by omega), if_pos (by omega), hrd, if_pos c1, if_pos c2]
      · refine Ev.step (fun k => ?_) (key false (by simp; omega))
        simp only [lz_Expand.l0]
        rw [if_pos (by omega), if_pos (by omega), if_pos (by omega), hrd, if_pos c1, if_neg c2]
    · have c1' : ¬ (t.f1 = 0 ∧ t.f2 = 0) := by simpa using c1
      refine Ev.step (fun k => ?_) (key false (by simp; omega))
      simp only [lz_Expand.l0]
      rw [if_pos (by omega), if_pos (by omega), if_pos (by omega), hrd, if_neg c1]

theorem exp_say (l : List S34) (hl : l.length ≤ 20000) : Ev (fun k => lz_Expand.f k l) (say l []) := exp_l0 l hl l.length 0 [] (by omega) (by simp)

/-! ### The document's -/
theorem right_eq (t : S34) : vitrineref04_Right.f t.f0 t.f1 t.f2 = some (isTok t) := by
  unfold vitrineref04_Right.f isTok
  by_cases h : t.f1 = 0
  · rw [if_pos h, if_pos h]
    repeat' split
    all_goals (congr 1; simp_all; try omega)
  · rw [if_neg h, if_neg h]
    repeat' split
    all_goals (congr 1; simp_all; try omega)

theorem rexp_l0 (l : List S34) (hl : l.length ≤ 20000) : ∀ (m i : Nat) (out : List Int), i + m = l.length → out.length ≤ 300 * i → Ev (fun k => vitrineref04_Expand.l0 k l out (i : Int)) (say (l.drop i) out) := by
  intro m
  induction m with
  | zero =>
    intro i out hi ho
    have e : l.drop i = [] := List.drop_eq_nil_of_le (by omega)
    rw [e]
    refine Ev.step (fun k => ?_) (Ev.now _)
    simp only [vitrineref04_Expand.l0]
    rw [if_neg (by omega)]
    rfl
  | succ m ih =>
    intro i out hi ho
    have hlt : i < l.length := by omega
    have e4 : wrap64 ((i : Int) + 1) = ((i + 1 : Nat) : Int) := by rw [w64 _ (by omega)]; omega
    obtain ⟨t, ht⟩ : ∃ t, t = l[i] := ⟨_, rfl⟩
    have hrd : rd_T34 l (i : Int) = t := by rw [rd_at hlt, ht]
    rw [drop_at hlt, ← ht]
    unfold say
    by_cases hr : isTok t = true
    · rw [if_pos hr]
      by_cases h1 : t.f1 = 0
      · rw [if_pos h1]
        have h2 := (isTok_lit h1).1 hr
        refine Ev.step (fun k => ?_) (ih (i + 1) (out ++ [t.f0]) (by omega) (by simp; omega))
        simp only [vitrineref04_Expand.l0]
        rw [if_pos (by omega), if_pos (by omega), hrd, right_eq, hr]
        simp only [Option.bind_some, if_true]
        rw [if_pos h1, if_pos (by omega), e4, Int.emod_eq_of_lt h2.2.1 (by omega)]
      · rw [if_neg h1]
        have h2 := (isTok_match h1).1 hr
        by_cases hf : t.f2 > (out.length : Int)
        · rw [if_pos hf]
          refine Ev.step (fun k => ?_) (Ev.now _)
          simp only [vitrineref04_Expand.l0]
          rw [if_pos (by omega), if_pos (by omega), hrd, right_eq, hr]
          simp only [Option.bind_some, if_true]
          rw [if_neg h1, if_pos hf]
        · rw [if_neg hf]
          have h3 := ih (i + 1) (copyN t.f2.toNat t.f1.toNat out) (by omega) (by rw [copyN_len]; omega)
          rw [← e4] at h3
          refine Ev.step (fun k => ?_) (rexp_l1 l (i : Int) t.f0 t.f1 t.f2 _ (by omega) (by omega) t.f1.toNat out 0 (by omega) (by omega) (by omega) (by omega) h3)
          simp only [vitrineref04_Expand.l0]
          rw [if_pos (by omega), if_pos (by omega), hrd, right_eq, hr]
          simp only [Option.bind_some, if_true]
          rw [if_neg h1, if_neg hf]
    · rw [if_neg hr]
      refine Ev.step (fun k => ?_) (Ev.now _)
      simp only [vitrineref04_Expand.l0]
      rw [if_pos (by omega), if_pos (by omega), hrd, right_eq]
      simp only [Option.bind_some]
      rw [if_neg hr]

theorem rexp_say (l : List S34) (hl : l.length ≤ 20000) : Ev (fun k => vitrineref04_Expand.f k l) (say l []) := rexp_l0 l hl l.length 0 [] (by omega) (by simp)

/-! ### What the tokens of bytes say -/
theorem getD_bytes (d : ByteArray) (m j : Nat) (hj : j < m) (hm : m ≤ d.size) : ((bytesOf d).take m).getD j 0 = bt d (j : Int) := by
  rw [← rd_bytesOf]
  unfold rd
  simp [List.getD, List.getElem?_take, hj]
theorem take_bytes_succ (d : ByteArray) (m : Nat) (hm : m < d.size) : (bytesOf d).take (m + 1) = (bytesOf d).take m ++ [bt d (m : Int)] := by
  have hl : (bytesOf d).length = d.size := bytesOf_length d
  rw [List.take_succ_eq_append_getElem (by omega)]
  congr 2
  rw [← rd_bytesOf]
  unfold rd
  simp [List.getD, hl, hm]

theorem copy_run (d : ByteArray) (i f : Nat) (hf : 1 ≤ f) (hfi : f ≤ i) : ∀ n m, i + m + n ≤ d.size → (∀ t, t < m + n → bt d ((i + t : Nat) : Int) = bt d ((i - f + t : Nat) : Int)) →
    copyN f n ((bytesOf d).take (i + m)) = (bytesOf d).take (i + m + n)
  | 0, m, _, _ => rfl
  | n + 1, m, hs, h => by
    have hl : ((bytesOf d).take (i + m)).length = i + m := by rw [List.length_take, bytesOf_length]; omega
    unfold copyN
    rw [hl, getD_bytes d (i + m) (i + m - f) (by omega) (by omega)]
    have h1 := h m (by omega)
    rw [show i - f + m = i + m - f by omega] at h1
    rw [← h1, ← take_bytes_succ d (i + m) (by omega)]
    have := copy_run d i f hf hfi n (m + 1) (by omega) (fun t ht => h t (by omega))
    rw [show i + (m + 1) = i + m + 1 by omega] at this
    rw [this]
    congr 1
    omega

/-- A token's run is one of the bytes themselves. -/
theorem scan_run (d : ByteArray) (i : Nat) (hi : i + 3 ≤ d.size) : ∀ (l : List Nat) (b f : Nat), (∀ j ∈ l, j < i ∧ j + 3 ≤ d.size ∧ key3 d j = key3 d i) → (3 ≤ b → f ≤ i ∧ ∀ t, t < b → bt d ((i + t : Nat) : Int) = bt d ((i - f + t : Nat) : Int)) →
    (3 ≤ (scan d i l b f).1 → (scan d i l b f).2 ≤ i ∧ ∀ t, t < (scan d i l b f).1 → bt d ((i + t : Nat) : Int) = bt d ((i - (scan d i l b f).2 + t : Nat) : Int))
  | [], b, f, _, h => h
  | j :: r, b, f, hl, h => by
    obtain ⟨hj1, hj2, hj3⟩ := hl j (by simp)
    have hr : ∀ j ∈ r, j < i ∧ j + 3 ≤ d.size ∧ key3 d j = key3 d i := fun x hx => hl x (by simp [hx])
    have hm : ∀ t, t < mrun d i j 3 → bt d ((i + t : Nat) : Int) = bt d ((j + t : Nat) : Int) := fun t ht => by
      by_cases h3 : t < 3
      · exact (key3_eq hi hj2).1 hj3 t h3
      · exact mrun_all t (by omega) ht
    have e : i - (i - j) = j := by omega
    by_cases hw : i - j ≤ 512
    · by_cases hb : b < mrun d i j 3
      · rw [scan_more hw hb]
        split
        · intro _
          exact ⟨by simp, fun t ht => by simp only [e]; exact hm t ht⟩
        · exact scan_run d i hi r _ _ hr (fun _ => ⟨by omega, fun t ht => by rw [e]; exact hm t ht⟩)
      · rw [scan_same hw hb]
        split
        · exact h
        · exact scan_run d i hi r _ _ hr h
    · rw [scan_far hw]
      exact h
theorem best_run (d : ByteArray) (i : Nat) (h3 : 3 ≤ (best d i).1) : (best d i).2 ≤ i ∧ ∀ t, t < (best d i).1 → bt d ((i + t : Nat) : Int) = bt d ((i - (best d i).2 + t : Nat) : Int) := by
  revert h3
  unfold best
  split
  · rename_i hi
    exact scan_run d i hi _ 0 0 (fun j hj => posOf_lt (List.mem_reverse.1 hj)) (by omega)
  · intro h; omega

theorem say_toks (d : ByteArray) : ∀ i, i ≤ d.size → say (toks d i) ((bytesOf d).take i) = (strOfNums (bytesOf d), 0) := by
  intro i hi
  unfold toks
  split
  · rename_i hlt
    have hb := best_bd d i hi
    have hl : ((bytesOf d).take i).length = i := by rw [List.length_take, bytesOf_length]; omega
    split
    · rename_i h3
      have hr := bt_range d (i : Int)
      unfold say
      rw [if_pos ((isTok_lit rfl).2 ⟨rfl, hr.1, hr.2⟩), if_pos rfl, ← take_bytes_succ d i hlt]
      exact say_toks d (i + 1) (by omega)
    · rename_i h3
      have h3' : 3 ≤ (best d i).1 := by omega
      have hb3 := hb.2.2 h3'
      unfold say
      have n0 : ¬ (⟨0, ((best d i).1 : Int), ((best d i).2 : Int)⟩ : S34).f1 = 0 := by show ¬ ((best d i).1 : Int) = 0; omega
      rw [if_pos ((isTok_match n0).2 ⟨rfl, by show (3 : Int) ≤ ((best d i).1 : Int); omega, by show ((best d i).1 : Int) ≤ 258; omega, by show (1 : Int) ≤ ((best d i).2 : Int); omega, by show ((best d i).2 : Int) ≤ 32768; omega⟩), if_neg n0, hl, if_neg (by show ¬ ((best d i).2 : Int) > (i : Int); omega)]
      show say (toks d (i + (best d i).1)) (copyN ((best d i).2 : Int).toNat ((best d i).1 : Int).toNat ((bytesOf d).take i)) = _
      rw [Int.toNat_natCast, Int.toNat_natCast]
      have hc := copy_run d i (best d i).2 hb3.1 hb3.2.2 (best d i).1 0 (by omega) (fun t ht => (best_run d i h3').2 t (by omega))
      rw [Nat.add_zero] at hc
      rw [hc]
      exact say_toks d (i + (best d i).1) hb.2.1
  · rename_i hlt
    have e : (bytesOf d).take i = bytesOf d := List.take_of_length_le (by rw [bytesOf_length]; omega)
    rw [e]
    rfl
termination_by i => d.size - i

end Go.Proofs.Ytlhgdkaaomdipaa.Tok
