/- Layer 2 (huff): Limit: its contract. -/
import Derived.Test.YtpldapjcojjicaaLm
import Derived.Test.YtpldapjcojjicaaPm0
import Derived.Deep.DeepCutAuto
import Derived.Deep.CutBlock
namespace Go.Proofs.Ytpldapjcojjicaa.B
open Go.RowKit Go.Shelf Go.Proofs.YtpldapjcojjicaaW.PrintWords Go.Proofs.YtpldapjcojjicaaW.PrintLast Go.Proofs.YtpldapjcojjicaaW.PrintMore
set_option linter.unusedVariables false
set_option linter.unusedSimpArgs false

/-- The coins, in the order of their symbols. -/
def coinsFrom : List Int → Nat → List Tr
  | [], _ => []
  | n :: l, i => if 0 < n then .coin n i :: coinsFrom l (i + 1) else coinsFrom l (i + 1)
theorem coinsFrom_cons (n : Int) (l : List Int) (i : Nat) : coinsFrom (n :: l) i = if 0 < n then .coin n i :: coinsFrom l (i + 1) else coinsFrom l (i + 1) := rfl
theorem coinsFrom_mem : ∀ (l : List Int) (i : Nat) (t : Tr), t ∈ coinsFrom l i → ∃ k, i ≤ k ∧ k < i + l.length ∧ 0 < l.getD (k - i) 0 ∧ t = .coin (l.getD (k - i) 0) k
  | [], _, _, h => by cases h
  | n :: l, i, t, h => by
    rw [coinsFrom_cons] at h
    have key : t ∈ coinsFrom l (i + 1) → ∃ k, i ≤ k ∧ k < i + (n :: l).length ∧ 0 < (n :: l).getD (k - i) 0 ∧ t = .coin ((n :: l).getD (k - i) 0) k := fun h => by
      obtain ⟨k, h1, h2, h3, h4⟩ := coinsFrom_mem l (i + 1) t h
      have e : k - i = (k - (i + 1)) + 1 := by omega
      refine ⟨k, by omega, by simp only [List.length_cons]; omega, ?_, ?_⟩
      · rw [e, List.getD_cons_succ]; exact h3
      · rw [e, List.getD_cons_succ]; exact h4
    split at h
    · rename_i hn
      rcases List.mem_cons.1 h with rfl | h
      · exact ⟨i, Nat.le_refl _, by simp, by simpa using hn, by simp⟩
      · exact key h
    · exact key h
def coinsOf (l : List Int) : List Tr := coinsFrom l 0
theorem coinsFrom_len : ∀ (l : List Int) (i : Nat), (coinsFrom l i).length ≤ l.length
  | [], _ => Nat.le_refl _
  | n :: l, i => by
    rw [coinsFrom_cons]
    have := coinsFrom_len l (i + 1)
    split <;> simp only [List.length_cons] <;> omega
def zerosOf (l : List Int) : List Int := List.replicate l.length 0
/-- What Limit tells. -/
def limitF (most : Int) (l : List Int) : List Int × Int :=
  if most < 1 ∨ 15 < most ∨ 288 < l.length ∨ l.any badCount = true then ([], 1)
  else if 2 ^ most.toNat < (coinsOf l).length then ([], 1)
  else if (coinsOf l).length < 2 then (addAll (coinsOf l) (zerosOf l), 0)
  else (addAll ((rowsF (isort Tr.wt (coinsOf l)) (most.toNat - 1)).take (2 * (coinsOf l).length - 2)) (zerosOf l), 0)

set_option maxHeartbeats 1000000 in
set_option maxRecDepth 100000 in
theorem limit_bad (W : World) (A : Option Addr) (c : Nat) (l : List Int) (most : Int) (hC : Kd.C (Kd.int .i64) W A l.length l) (hl : l.length ≤ 100000000000000) (h : most < 1 ∨ 15 < most ∨ 288 < l.length ∨ l.any badCount = true) :
    Calls Try.prog 40 #[.int .i64 most, .slice A l.length c] W fun e W' => e = .returned (.tuple #[.slice none 0 0, .int .i64 1]) ∧ W' = W := by
  have hcont := Aside0.mk (contains53_calls W A c l hC hl)
  by_cases h1 : most < 1
  · have k1 : decide (most < 1) = true := decide_eq_true h1
    go_enter Try.func40, Try.ntmps40
    go_wp2
    go_ret2
    exact ⟨rfl, rfl⟩
  · have k1 : decide (most < 1) = false := decide_eq_false h1
    by_cases h2 : 15 < most
    · have k2 : decide (15 < most) = true := decide_eq_true h2
      go_enter Try.func40, Try.ntmps40
      go_wp2
      go_ret2
      exact ⟨rfl, rfl⟩
    · have k2 : decide (15 < most) = false := decide_eq_false h2
      by_cases h3 : 288 < l.length
      · have k3 : decide ((288 : Int) < (l.length : Int)) = true := decide_eq_true (by omega)
        have k3' : decide (288 < l.length) = true := decide_eq_true h3
        go_enter Try.func40, Try.ntmps40
        go_wp2
        go_ret2
        exact ⟨rfl, rfl⟩
      · have k3 : decide ((288 : Int) < (l.length : Int)) = false := decide_eq_false (by omega)
        have k3' : decide (288 < l.length) = false := decide_eq_false h3
        have hb : l.any badCount = true := by
          rcases h with h | h | h | h
          · exact absurd h h1
          · exact absurd h h2
          · exact absurd h h3
          · exact h
        rw [hb] at hcont
        clear h hb
        go_enter Try.func40, Try.ntmps40
        go_wp2_with (go_at_call 48; refine hcont.out.mono ?_; rintro e w1 ⟨rfl, rfl⟩)
        go_ret2
        exact ⟨rfl, rfl⟩

/-- What is told of Limit's return. -/
def LimPost (W : World) (r : List Int) (x : Int) (e : Ending) (W' : World) : Prop := ∃ v, e = .returned (.tuple #[v, .int .i64 x]) ∧ W'.ownsRow W.heap.size 3 1 v r.length (nums .i64 r) ∧ Below W.heap.size W W'
theorem IsL.owns {W : World} {base g : Nat} {L : List Int} (h : IsL W g L) (hb : base ≤ g) (hL : L.length ≤ 1000) : W.ownsRow base 3 1 (.slice (some ⟨g, 0, none⟩) L.length L.length) L.length (nums .i64 L) := by
  refine ⟨by simp [nums], .inr ⟨g, L.length, _, rfl, hb, h, Nat.le_refl _, by unfold maxLen; omega, by simp [nums], ?_⟩⟩
  rw [Nat.mul_one, List.take_of_length_le (by simp [nums])]
theorem addAll_len : ∀ (ts : List Tr) (L : List Int), (addAll ts L).length = L.length
  | [], _ => rfl
  | t :: ts, L => by rw [addAll_cons, addAll_len ts, Tr.add_len]

theorem info3b : (Try.prog.info? 3).map (fun i => (i.zero, i.size, i.bytes)) = some (some (.int .i64 0), 1, 8) := by kernel_rfl
def CRep (x : It) (t : Tr) : Prop := ∃ (n : Int) (s : Nat), x = ⟨n, s, none, 0, 0⟩ ∧ t = .coin n s
theorem CRep.rep {R : Nat → Prop} {W : World} {x : It} {t : Tr} (h : CRep x t) : Rep R W x t := by
  obtain ⟨n, s, rfl, rfl⟩ := h
  rfl
set_option maxHeartbeats 4000000 in
set_option maxRecDepth 100000 in
theorem limit_good (W : World) (A : Option Addr) (c : Nat) (l : List Int) (m1 : Nat) (hC : Kd.C (Kd.int .i64) W A l.length l) (h288 : l.length ≤ 288) (hm1 : m1 ≤ 14) (hbad : l.any badCount = false) (r : List Int) (x : Int) (hres : limitF ((m1 : Int) + 1) l = (r, x)) :
    Calls Try.prog 40 #[.int .i64 ((m1 : Int) + 1), .slice A l.length c] W (LimPost W r x) := by
  have hcont := Aside0.mk (contains53_calls W A c l hC (by omega))
  rw [hbad] at hcont
  obtain ⟨i0, hinf, hz⟩ := Option.map_eq_some_iff.1 info87
  simp only [Prod.mk.injEq] at hz
  obtain ⟨hz0, hz1, hz2⟩ := hz
  have hunf : limitF ((m1 : Int) + 1) l = if 2 ^ (m1 + 1) < (coinsOf l).length then ([], 1) else if (coinsOf l).length < 2 then (addAll (coinsOf l) (zerosOf l), 0) else (addAll ((rowsF (isort Tr.wt (coinsOf l)) m1).take (2 * (coinsOf l).length - 2)) (zerosOf l), 0) := by
    unfold limitF
    rw [if_neg (by rw [hbad]; rintro (h | h | h | h) <;> first | omega | cases h), show ((m1 : Int) + 1).toNat = m1 + 1 by omega]
    rfl
  rw [hunf] at hres
  have hres := Aside0.mk hres
  have hbel0 : ∀ x ∈ l, 0 ≤ x ∧ x ≤ 1000000000 := fun x hx => by
    have := List.any_eq_false.1 hbad x hx
    unfold badCount at this
    simp at this
    omega
  have hbel0 := Aside0.mk hbel0
  have hC := Aside0.mk hC
  clear hbad hunf
  refine callsIn_wide.1 (callsIn_of_wp_marks (F := Fence.wide) (n := 9) Try.func40 rfl trivial (wpIn_wide.2 ?_) rfl)
  simp only [Try.ntmps40, List.size_toArray, List.length_cons, List.length_nil, Nat.reduceAdd, Nat.reduceSub, Array.replicate_succ, Array.replicate_zero, List.push_toArray, List.append_toArray, List.nil_append, List.cons_append]
  have k3 : decide ((288 : Int) < (l.length : Int)) = false := decide_eq_false (by omega)
  have k3' : decide (288 < l.length) = false := decide_eq_false (by omega)
  have k1 : decide ((m1 : Int) + 1 < 1) = false := decide_eq_false (by omega)
  have k2 : decide (15 < (m1 : Int) + 1) = false := decide_eq_false (by omega)
  go_wp2_with (go_at_call 48; refine hcont.out.mono ?_; rintro e w1 ⟨rfl, hw1⟩; rw [hw1]; clear hw1)
  go_loopg [6, 30] l.length (fun gh v6 v30 wr => ∃ (i : Nat) (its : List It) (ts : List Tr), v30 = .int .i64 (i : Int) ∧ i ≤ l.length ∧ l.length - i ≤ gh ∧ its.length ≤ i ∧ Aside0 (RI wr W.heap.size v6 its ∧ Side CRep its ts ∧ ts ++ coinsFrom (l.drop i) i = coinsOf l ∧ Fr (fun _ => False) W wr))
  case atStart => exact ⟨0, [], [], rfl, Nat.zero_le _, by omega, Nat.le_refl _, ⟨World.ownsRow_nil _ _ _ _, .nil, rfl, Fr.refl _ _⟩⟩
  case round =>
    obtain ⟨i, its, ts, rfl, hi, hg, hil, HR⟩ := hrel
    by_cases hc : i < l.length
    · have hcb : decide ((i : Int) < (l.length : Int)) = true := decide_eq_true (by omega)
      have hcb' : decide (i < l.length) = true := decide_eq_true hc
      obtain ⟨ad, eA, hx⟩ := Kd.at_int hC.out (i : Int) (by omega) (by omega)
      cases eA
      replace hx := (HR.out.2.2.2.to_below (B := W.heap.size) (fun _ _ _ e => e) (Nat.le_refl _)).cell (World.block_lt_of_cell? W _ hx) |>.trans hx
      rw [Int.toNat_natCast] at hx
      have p0 := eq_true (show (0 : Int) ≤ (i : Int) by omega)
      have q0 := eq_true (show (i : Int) < (l.length : Int) by omega)
      obtain ⟨y, hxx⟩ : ∃ y, rd l (i : Int) = y := ⟨_, rfl⟩
      rw [hxx] at hx
      have hle : l[i] = y := by
        rw [← hxx]
        unfold rd
        rw [Int.toNat_natCast, List.getD_eq_getElem?_getD, List.getElem?_eq_getElem hc]
        rfl
      have hyb := hbel0.out y (by rw [← hle]; exact List.getElem_mem _)
      have hT2 := HR.out.2.2.1
      rw [List.drop_eq_getElem_cons hc, hle, coinsFrom_cons] at hT2
      clear hxx hle
      by_cases h0 : 0 < y
      · have h0b : decide (0 < y) = true := decide_eq_true h0
        rw [if_pos h0] at hT2
        replace hT2 := Aside0.mk hT2
        have hown : Aside0 (wr.ownsRow W.heap.size 87 3 u6 its.length (flat its)) := ⟨HR.out.1⟩
        have hnews : Aside0 (∀ j u, ([.int .i64 y, .int .i64 (i : Int), .slice none 0 0] : List Value)[j]? = some u → (wr.alloc (.cells #[.int .i64 y, .int .i64 (i : Int), .slice none 0 0] 87)).cell? ((⟨wr.heap.size, 0, none⟩ : Addr).add j) = some u) := ⟨by simpa using World.news_of_block (cs := #[.int .i64 y, .int .i64 (i : Int), .slice none 0 0]) (t := 87) (fr := (0, 0)) (heap_alloc_new wr (.cells #[.int .i64 y, .int .i64 (i : Int), .slice none 0 0] 87))⟩
        have hone : Aside0 (∀ u ∈ ([.int .i64 y, .int .i64 (i : Int), .slice none 0 0] : List Value), u.oneCell' = true) := ⟨fun u hu => by simp only [List.mem_cons, List.not_mem_nil, or_false] at hu; rcases hu with rfl | rfl | rfl <;> rfl⟩
        have hbase : Aside0 (W.heap.size ≤ (wr.alloc (.cells #[.int .i64 y, .int .i64 (i : Int), .slice none 0 0] 87)).heap.size) := ⟨by have := HR.out.2.2.2.size; simp; omega⟩
        go_wp2_with (at_builtin; (refine wpList_append_own _ rfl (.tmp 37) (.tmp 41) 85 rfl W.heap.size 87 i0 (.agg #[.int .i64 0, .int .i64 0, .slice none 0 0]) 3 40 Try.underlying85 hinf hz0 hz1 hz2 rfl (by decide) u6 its.length (flat its) rfl (hown.out.alloc _) ⟨wr.heap.size, 0, none⟩ 1 1 [.int .i64 y, .int .i64 (i : Int), .slice none 0 0] rfl rfl hnews.out hone.out (by unfold maxLen; omega) (by omega) hbase.out ?_); intro v1 w1 hown1 hgrow1 _; replace hown1 := Aside0.mk hown1; replace hgrow1 := Aside0.mk hgrow1)
        go_roundg (l.length - (i + 1))
        case measure => omega
        case rel =>
          have hown2 := hown1.out
          refine ⟨i + 1, its ++ [⟨y, (i : Int), none, 0, 0⟩], ts ++ [.coin y i], by go_num, by omega, by omega, by simp; omega, ⟨?_, HR.out.2.1.append (.cons ⟨y, i, rfl, rfl⟩ .nil), by rw [← hT2.out]; simp, ?_⟩⟩
          · unfold RI
            rw [flat_append, show (its ++ [(⟨y, (i : Int), none, 0, 0⟩ : It)]).length = its.length + 1 by simp]
            exact hown2
          · exact HR.out.2.2.2.trans (T := fun k => W.heap.size ≤ k) (((Fr.refl _ wr).alloc _).grown hgrow1.out (fun k e he => (own_base hown.out k e))) (fun k hk h => by omega)
      · have h0b : decide (0 < y) = false := decide_eq_false h0
        rw [if_neg h0] at hT2
        replace hT2 := Aside0.mk hT2
        go_wp2
        go_roundg (l.length - (i + 1))
        case measure => omega
        case rel => exact ⟨i + 1, its, ts, by go_num, by omega, by omega, by omega, ⟨HR.out.1, HR.out.2.1, hT2.out, HR.out.2.2.2⟩⟩
    · have hcb : decide ((i : Int) < (l.length : Int)) = false := decide_eq_false (by omega)
      have hcb' : decide (i < l.length) = false := decide_eq_false hc
      obtain rfl : i = l.length := by omega
      have hts : ts = coinsOf l := by
        have := HR.out.2.2.1
        rwa [List.drop_eq_nil_of_le (Nat.le_refl _), show coinsFrom [] l.length = [] from rfl, List.append_nil] at this
      have hkl : its.length = (coinsOf l).length := by rw [← hts]; exact HR.out.2.1.len
      have hshape : ∃ A' c', u6 = .slice A' its.length c' := by
        rcases HR.out.1.2 with ⟨h0, h1⟩ | ⟨g, c', cur, hv, _⟩
        · exact ⟨none, 0, by rw [h0, h1]⟩
        · exact ⟨_, c', hv⟩
      obtain ⟨A', c', rfl⟩ := hshape
      have hmk := print_make 51 3 .i64 8 Try.underlying51 info3b (by decide) l.length (by omega)
      obtain ⟨k, hk⟩ : ∃ k, its.length = k := ⟨_, rfl⟩
      have hkb : k ≤ 288 := by omega
      rw [hk]
      have hk := Aside0.mk hk
      have hts := Aside0.mk hts
      have hkl := Aside0.mk hkl
      clear hcont
      have hpw : wrap64 ((2 : Int) ^ (m1 + 1)) = ((2 ^ (m1 + 1) : Nat) : Int) := by
        have hp : (2 : Nat) ^ (m1 + 1) ≤ 2 ^ 15 := two_pow_le (by omega)
        have hp0 := pow_pos' (m1 + 1)
        rw [pow_cast]
        generalize (2 : Nat) ^ (m1 + 1) = p at hp hp0 ⊢
        exact w64' _ (by omega)
      by_cases hbig : 2 ^ (m1 + 1) < k
      · have d1 : decide (wrap64 ((2 : Int) ^ (m1 + 1)) < (k : Int)) = true := decide_eq_true (by rw [hpw]; exact_mod_cast hbig)
        have hr2 := hres.out
        rw [if_pos (by rw [← hkl.out, hk.out]; exact hbig)] at hr2
        have hr2 := Aside0.mk hr2
        clear hpw
        go_wp2_with fail
        refine ⟨_, results_tmp2 (t := 4) (u := 5) rfl _ _ _, ?_⟩
        have e1 : r = [] := (congrArg Prod.fst hr2.out).symm
        have e2 : x = 1 := (congrArg Prod.snd hr2.out).symm
        rw [e1, e2]
        exact ⟨_, rfl, World.ownsRow_nil _ _ _ _, HR.out.2.2.2.to_below (fun _ _ _ e => e) (Nat.le_refl _)⟩
      · have d1 : decide (wrap64 ((2 : Int) ^ (m1 + 1)) < (k : Int)) = false := decide_eq_false (by rw [hpw]; exact fun h => hbig (by exact_mod_cast h))
        clear hpw
        have hres2 := hres.out
        rw [if_neg (by rw [← hkl.out, hk.out]; exact hbig)] at hres2
        have hL0 : Aside0 (IsL (wr.alloc (.cells (madeCells #[.int .i64 0] l.length) 3)) wr.heap.size (zerosOf l)) := ⟨by
          unfold IsL
          rw [heap_alloc_new]
          congr 2
          apply Array.toList_inj.1
          rw [toList_madeCells_one]
          simp [nums, zerosOf]⟩
        have hWle : W.heap.size ≤ wr.heap.size := HR.out.2.2.2.size
        have hbl : Below W.heap.size W (wr.alloc (.cells (madeCells #[.int .i64 0] l.length) 3)) := (HR.out.2.2.2.alloc _).to_below (fun _ _ _ e => e) (Nat.le_refl _)
        have hfin : Aside0 (∀ (W' : World) (L : List Int), IsL W' wr.heap.size L → L.length = l.length → L = r → (0 : Int) = x → Below W.heap.size (wr.alloc (.cells (madeCells #[.int .i64 0] l.length) 3)) W' → LimPost W r x (.returned (.tuple #[.slice (some ⟨wr.heap.size, 0, none⟩) l.length l.length, .int .i64 0])) W') := ⟨fun W' L h1 h2 h3 h4 h5 => by
          subst h3
          subst h4
          refine ⟨_, rfl, ?_, hbl.trans h5⟩
          have := h1.owns hWle (by omega)
          rwa [h2] at this ⊢⟩
        by_cases h2 : 2 ≤ k
        · have d2 : ((k : Int) == 1) = false := by simp; omega
          have d3 : decide ((k : Int) < 2) = false := decide_eq_false (by omega)
          have d3' : decide (k < 2) = false := decide_eq_false (by omega)
          rw [if_neg (by rw [← hkl.out, hk.out]; omega)] at hres2
          have hres2 := Aside0.mk hres2
          have hown := HR.out.1
          have hA : ∃ g, A' = some ⟨g, 0, none⟩ := by
            rcases hown.2 with ⟨h0, h1⟩ | ⟨g, cap, cur, hv, _⟩
            · have := hk.out; omega
            · cases hv; exact ⟨g, rfl⟩
          obtain ⟨g, rfl⟩ := hA
          have hown := Aside0.mk hown
          go_upto_region 17 with (fail)
          rename_i KK hKK
          have hlies := hown.out.lies
          have hcoins : ∀ t ∈ ts, 0 ≤ t.wt ∧ t.wt ≤ 1000000000 ∧ t.leaves = 1 ∧ t.ok l.length := fun t ht => by
            rw [hts.out] at ht
            obtain ⟨j, j1, j2, j3, rfl⟩ := coinsFrom_mem l 0 t ht
            have hb := hbel0.out (l.getD (j - 0) 0) (by
              rw [List.getD_eq_getElem?_getD, List.getElem?_eq_getElem (by omega)]
              exact List.getElem_mem _)
            exact ⟨hb.1, hb.2, rfl, by unfold Tr.ok; omega⟩
          refine tail_wp 9 W.heap.size k g c' wr.heap.size l.length l.length m1 (wr.alloc (.cells (madeCells #[.int .i64 0] l.length) 3)) its ts (zerosOf l) _ _ _ _ _ _ _ _ _ _ _ _ _ _ _ _ _ _ _ _ _ _ _ _ _ _ _ _ _ _ _ _ _ _ _ _ _ _ _ _ _ _ _ _ _ _ _ _ _ _ _ _ _ _ _ _ _ _ _ _ _ _ _ _ _ _ _ _ _ _ _ _ _ _ _ _ _ _ _ _ _ _ _ _ _ _ _ _ _ _ _ _ _ _ _ _ _ _ _ _ _ _ _ _ _ _ (LimPost W r x) hm1 (hown.out.alloc _) hk.out h2 hkb (Nat.le_of_not_lt hbig) (HR.out.2.1.imp (fun _ _ h => h.rep)) hcoins hL0.out (by simp [zerosOf]) (fun j => by unfold zerosOf; rw [List.getD_eq_getElem?_getD, List.getElem?_replicate]; split <;> simp) hWle (by omega) (by have := hlies.2.2.1; omega) (by simp; omega) (fun W' hI hB => hfin.out W' _ hI (by rw [addAll_len]; simp [zerosOf]) ?_ ?_ hB) KK (fun a w h => hKK a w h)
          · have e : _ = r := congrArg Prod.fst hres2.out
            rw [hts.out, ← hk.out, hkl.out]
            exact e
          · exact congrArg Prod.snd hres2.out
        · have d3 : decide ((k : Int) < 2) = true := decide_eq_true (by omega)
          have d3' : decide (k < 2) = true := decide_eq_true (by omega)
          rw [if_pos (by rw [← hkl.out, hk.out]; omega)] at hres2
          have hres2 := Aside0.mk hres2
          by_cases h1 : k = 1
          · have d2 : ((k : Int) == 1) = true := by simp; omega
            have hown := HR.out.1
            have hA : ∃ g, A' = some ⟨g, 0, none⟩ := by
              rcases hown.2 with ⟨h0, h1⟩ | ⟨g, cap, cur, hv, _⟩
              · have := hk.out; omega
              · cases hv; exact ⟨g, rfl⟩
            obtain ⟨g, rfl⟩ := hA
            obtain ⟨x0, t0, ex0, et0, n, s, rfl, rfl⟩ := HR.out.2.1.get 0 (by have := hk.out; omega)
            have hlies := hown.lies
            have hcs := (hlies.1.at ex0).2.1
            simp only [Nat.zero_mul, Nat.zero_add] at hcs
            have ht1 : ts = [.coin n s] := by
              have hl1 : ts.length = 1 := by rw [← HR.out.2.1.len, hk.out, h1]
              match ts, hl1, et0 with
              | [t], _, e => simp at e; rw [e]
            have hsl : s < l.length := by
              have hm : Tr.coin n s ∈ coinsFrom l 0 := by
                have := hts.out
                rw [ht1] at this
                show _ ∈ coinsOf l
                rw [← this]; exact List.mem_cons_self ..
              obtain ⟨j, j1, j2, j3, e⟩ := coinsFrom_mem l 0 _ hm
              cases e
              omega
            have hr3 : (zerosOf l).set s 1 = r ∧ (0 : Int) = x := by
              have e1 := congrArg Prod.fst hres2.out
              have e2 := congrArg Prod.snd hres2.out
              rw [← hts.out, ht1] at e1
              refine ⟨?_, e2⟩
              have hz : (zerosOf l).getD s 0 = 0 := by unfold zerosOf; rw [List.getD_eq_getElem?_getD, List.getElem?_replicate]; split <;> simp
              have e3 : addAll [Tr.coin n s] (zerosOf l) = (zerosOf l).set s 1 := by
                show (zerosOf l).set s ((zerosOf l).getD s 0 + 1) = _
                rw [hz]; rfl
              rw [← e3]; exact e1
            replace hr3 := Aside0.mk hr3
            have c1 : (wr.alloc (.cells (madeCells #[.int .i64 0] l.length) 3)).cell? ⟨g, 1, none⟩ = some (.int .i64 (s : Int)) := cell_al _ hcs
            have hzc := hL0.out.cell s (by simp [zerosOf]; exact hsl)
            have hzf := blk_frozen hL0.out s
            have p0 := eq_true (show (0 : Int) ≤ (s : Int) by omega)
            have q0 := eq_true (show (s : Int) < (l.length : Int) by omega)
            have hset : Aside0 (IsL ((wr.alloc (.cells (madeCells #[.int .i64 0] l.length) 3)).setCell ⟨wr.heap.size, s, none⟩ (.int .i64 1)) wr.heap.size ((zerosOf l).set s 1)) := ⟨hL0.out.set s 1⟩
            have hbs : Aside0 (Below W.heap.size (wr.alloc (.cells (madeCells #[.int .i64 0] l.length) 3)) ((wr.alloc (.cells (madeCells #[.int .i64 0] l.length) 3)).setCell ⟨wr.heap.size, s, none⟩ (.int .i64 1))) := ⟨(Below.refl _ _).setCell (p := ⟨wr.heap.size, s, none⟩) hWle _⟩
            have hsa : (wr.alloc (.cells (madeCells #[.int .i64 0] l.length) 3)).setCell ⟨wr.heap.size, s, none⟩ (.int .i64 1) = wr.alloc (.cells ((madeCells #[.int .i64 0] l.length).setIfInBounds s (.int .i64 1)) 3) := World.setCell_alloc_at _ _ _ _ _ rfl
            rw [hsa] at hset hbs
            clear hsa
            subst h1
            have d1' : decide (wrap64 ((2 : Int) ^ (m1 + 1)) < 1) = false := d1
            clear hlies hown hcs ht1 ex0 et0 d1
            go_wp2_with fail
            refine ⟨_, results_tmp2 (t := 4) (u := 5) rfl _ _ _, ?_⟩
            exact hfin.out _ _ hset.out (by simp [zerosOf]) hr3.out.1 hr3.out.2 hbs.out
          · have d2 : ((k : Int) == 1) = false := by simp; omega
            go_wp2_with fail
            refine ⟨_, results_tmp2 (t := 4) (u := 5) rfl _ _ _, ?_⟩
            refine hfin.out _ _ hL0.out (by simp [zerosOf]) ?_ ?_ (Below.refl _ _)
            · have e := congrArg Prod.fst hres2.out
              have hnil : coinsOf l = [] := List.eq_nil_of_length_eq_zero (by rw [← hkl.out, hk.out]; omega)
              rw [hnil] at e
              exact e
            · exact congrArg Prod.snd hres2.out
