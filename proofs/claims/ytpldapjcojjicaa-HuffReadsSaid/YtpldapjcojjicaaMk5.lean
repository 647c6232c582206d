/- Layer 2 (huff): Make: its contract. -/
import Derived.Test.YtpldapjcojjicaaMk4
import Derived.Test.YtpldapjcojjicaaNx
namespace Go.Proofs.Ytpldapjcojjicaa.B
open Go.Proofs Go.RowKit Go.Proofs.YtpldapjcojjicaaW.PrintWords Go.Proofs.YtpldapjcojjicaaW.PrintLast Go.Proofs.YtpldapjcojjicaaW.PrintMore
set_option linter.unusedVariables false
set_option linter.unusedSimpArgs false

/-- A row of ints that a slice owns is read. -/
theorem own_C {W : World} {base c : Nat} {A : Option Addr} {l : List Int} (h : W.ownsRow base 3 1 (.slice A l.length c) l.length (nums .i64 l)) (hl : l.length ≤ 1000000000) : Kd.C (Kd.int .i64) W A l.length l := by
  refine ⟨rfl, by omega, fun h0 => ?_⟩
  rcases h.2 with ⟨_, h1⟩ | ⟨g, cap, cur, hv, hbase, hb, h1, h2, h3, h4⟩
  · omega
  · cases hv
    refine ⟨_, rfl, fun j p hp => ⟨[.int .i64 p], rfl, rfl, fun i u hu => ?_⟩⟩
    have hj : j < l.length := (List.getElem?_eq_some_iff.1 hp).1
    have hi : i = 0 := by
      have := (List.getElem?_eq_some_iff.1 hu).1
      simp at this
      exact this
    subst hi
    simp only [List.getElem?_cons_zero, Option.some.injEq] at hu
    subst hu
    have e : (⟨g, 0, none⟩ : Addr).add (j * 1 + 0) = ⟨g, j, none⟩ := by simp [Addr.add]; omega
    show W.cell? ((⟨g, 0, none⟩ : Addr).add (j * 1 + 0)) = _
    rw [e, blk_cell hb j, ← Array.getElem?_toList, ← List.getElem?_take_of_lt (j := l.length * 1) (by omega), h4]
    simp [nums, hp]
def mostQ (S : List Nat) : Nat := if S.length < 2 then S.length else 15
/-- The symbols by rising code. -/
def symQ (l : List Int) : List Nat := isort (symKey l) (symGo l 0)
/-- What is told of Make's return. -/
def MkPost (W : World) (l : List Int) (e : Ending) (W' : World) : Prop :=
  ∃ T t, e = .returned (.tuple #[.pointer (some ⟨T, 0, none⟩), .int .i64 0]) ∧ IsT W' T t l (codesL l) (tally l) (symQ l) (mostQ (symQ l)) ∧ Below W.heap.size W W'

theorem make_bad (W : World) (A : Option Addr) (c : Nat) (l : List Int) (hC : Kd.C (Kd.int .i64) W A l.length l) (hl : l.length ≤ 100000000000000) (h : checkF l ≠ 0) :
    Calls Try.prog 42 #[.slice A l.length c] W fun e W' => e = .returned (.tuple #[.pointer none, .int .i64 (checkF l)]) ∧ Below W.heap.size W W' := by
  have hcod := codes_calls (W.alloc (.cells #[.slice A l.length c] 51)) A c l (Kd.C_alloc hC _) hl [] (checkF l) (if_neg h)
  have hcod := Aside0.mk hcod
  have hne : (checkF l != 0) = true := by simpa using h
  generalize checkF l = y at *
  clear h
  go_enter Try.func42, Try.ntmps42
  go_wp2_with (go_at_call 37; refine hcod.out.mono ?_; rintro e w1 ⟨v, rfl, hO, hB⟩; replace hO := Aside0.mk hO; replace hB := Aside0.mk hB)
  go_ret2
  exact ⟨rfl, (below_alloc (Below.refl _ W) _).trans (hB.out.mono (by simp))⟩

set_option maxHeartbeats 4000000 in
set_option maxRecDepth 100000 in
theorem make_good (W : World) (A : Option Addr) (c : Nat) (l : List Int) (hC : Kd.C (Kd.int .i64) W A l.length l) (h : checkF l = 0) :
    Calls Try.prog 42 #[.slice A l.length c] W (MkPost W l) := by
  obtain ⟨h288, hbad⟩ := checkF_ok h
  have hcod := codes_calls (W.alloc (.cells #[.slice A l.length c] 51)) A c l (Kd.C_alloc hC _) (by omega) (codesL l) 0 (if_pos h)
  have hcod := Aside0.mk hcod
  have hcl : (codesL l).length = l.length := by unfold codesL; rw [codesGo_len]; simp
  generalize hcd : codesL l = C at *
  have hcd := Aside0.mk hcd
  have hcnt := Aside0.mk (fun W' hC' => counted_calls W' A c l hC' (by omega) hbad)
  obtain ⟨a0, a1, a2, a3, a4, a5, a6, a7, a8, a9, a10, a11, a12, a13, a14, a15, ho⟩ := IsN.shape (tally_len l)
  have hag : aggN (tally l) = .agg #[.int .i64 a0, .int .i64 a1, .int .i64 a2, .int .i64 a3, .int .i64 a4, .int .i64 a5, .int .i64 a6, .int .i64 a7, .int .i64 a8, .int .i64 a9, .int .i64 a10, .int .i64 a11, .int .i64 a12, .int .i64 a13, .int .i64 a14, .int .i64 a15] := by rw [ho]; rfl
  rw [hag] at hcnt
  have ho := Aside0.mk ho
  have hcl60 : Aside0 (∀ (W' : World), Kd.C (Kd.int .i64) W' A l.length l → Calls Try.prog 60 #[.slice A l.length c] W' fun e W2 => ∃ v, e = .returned v ∧ W2.ownsRow W'.heap.size 3 1 v l.length (nums .i64 l) ∧ Below W'.heap.size W' W2) := ⟨fun W' hC' => clone1_calls W' A c l hC' (by omega)⟩
  have hC := Aside0.mk hC
  obtain ⟨i0, hinf, hz⟩ := Option.map_eq_some_iff.1 info3c
  simp only [Prod.mk.injEq] at hz
  obtain ⟨hz0, hz1, hz2⟩ := hz
  clear h hag
  go_enter Try.func42, Try.ntmps42
  go_wp2_with (go_at_call 37; refine hcod.out.mono ?_; rintro e w1 ⟨v, rfl, hO, hB⟩; replace hO := Aside0.mk hO; replace hB := Aside0.mk hB; obtain ⟨A2, c2, rfl⟩ := own_slice hO.out)
  have hS0 : w1.drew.cell? ⟨W.heap.size, 0, none⟩ = some (.slice A l.length c) := (hB.out.cell (p := ⟨W.heap.size, 0, none⟩) (by simp)).trans ((blk_cell (heap_alloc_new W _) 0).trans rfl)
  have hbw1 := Aside0.mk ((below_alloc (Below.refl _ W) (.cells #[.slice A l.length c] 51)).trans (hB.out.mono (by simp)))
  have hC1 := Aside0.mk (Kd.C_below hC.out hbw1.out)
  refine start_ (n := 8) (S := fun w' => w'.cell? ⟨W.heap.size, 0, none⟩ = some (.slice A l.length c)) (ds := [4, 5, 6, 7]) #[false, false, false, false, false, false, false, false] (by kernel_rfl) rfl rfl hS0 (fun hHeld => ?_)
  refine pure_ (i := 2) (N := some 19) (v := ?_) (a' := ?_) #[false, false, true, false, false, false, false, false] rfl rfl (by kernel_rfl) (fun _ _ _ h => h) (Or.inl ⟨by rfl, ?_⟩) ?_ ?_
  rotate_left
  · intro w'
    go_simp
    with_reducible rfl
  rotate_left
  · simp only [Act.put, List.setIfInBounds_toArray, List.set_cons_zero, List.set_cons_succ, i64_w, i32_w]
    rfl
  refine take_ (i := 0) (N := some 17) (v := ?_) (a' := ?_) #[true, false, true, false, false, false, false, false] rfl rfl (by kernel_rfl) (fun _ _ _ h => h) (Or.inl ⟨by rfl, ?_⟩) hHeld ?_ ?_
  rotate_left
  · intro w' s0
    go_simp
    with_reducible rfl
  rotate_left
  · simp only [Act.put, List.setIfInBounds_toArray, List.set_cons_zero, List.set_cons_succ, i64_w, i32_w]
    rfl
  refine take_ (i := 3) (N := some 20) (v := ?_) (a' := ?_) #[true, false, true, true, false, false, false, false] rfl rfl (by kernel_rfl) (fun _ _ _ h => h) (Or.inl ⟨by rfl, ?_⟩) hHeld ?_ ?_
  rotate_left
  · intro w' s0
    go_simp
    with_reducible rfl
  rotate_left
  · simp only [Act.put, List.setIfInBounds_toArray, List.set_cons_zero, List.set_cons_succ, i64_w, i32_w]
    rfl
  refine one_ (i := 1) (N := some 18) #[true, true, true, true, false, false, false, false] rfl rfl (by kernel_rfl) (by decide) (fun K hK => ?_)
  refine goes_ Try.func60 (by kernel_rfl) rfl #[.slice A l.length c] (by rfl) rfl rfl (by simp only [List.map_toArray, List.map_cons, List.map_nil]; rfl) ?_
  with_reducible refine (hcl60.out _ (Kd.C_drew hC1.out)).mono ?_
  rintro e w2 ⟨v2, rfl, hO2, hB2⟩
  replace hO2 := Aside0.mk hO2
  replace hB2 := Aside0.mk hB2
  obtain ⟨A1, c1, rfl⟩ := own_slice hO2.out
  refine ⟨_, rfl, ?_⟩
  refine hK.out _ _ ((hB2.out.cell (World.block_lt_of_cell? w1.drew _ hHeld)).trans hHeld) (fun hHeld => ?_)
  clear hK K
  refine norm_ (a' := ?_) ?_ ?_
  rotate_left
  · show Act.put _ (some 18) _ = _
    simp only [Act.put, List.setIfInBounds_toArray, List.set_cons_zero, List.set_cons_succ, i64_w, i32_w]
    rfl
  refine last_ (i := 4) (N := some 21) #[true, true, true, true, true, false, false, false] rfl rfl (by kernel_rfl) (by decide) (fun K hK => ?_)
  refine goes_ Try.func50 (by kernel_rfl) rfl #[.slice A l.length c] (by rfl) rfl rfl (by simp only [List.map_toArray, List.map_cons, List.map_nil]; rfl) ?_
  with_reducible refine (hcnt.out _ (Kd.C_below (Kd.C_drew hC1.out) (hB2.out.mono (by simp)))).mono ?_
  rintro e w3 ⟨rfl, hF3⟩
  replace hF3 := Aside0.mk hF3
  refine ⟨_, rfl, ?_⟩
  refine hK.out _ _ ?_
  clear hK K
  refine norm_ (a' := ?_) ?_ ?_
  rotate_left
  · show Act.put _ (some 21) _ = _
    simp only [Act.put, List.setIfInBounds_toArray, List.set_cons_zero, List.set_cons_succ, i64_w, i32_w]
    rfl
  refine pure_ (i := 5) (N := some 22) (v := ?_) (a' := ?_) #[true, true, true, true, true, true, false, false] rfl rfl (by kernel_rfl) (fun _ _ _ h => h) (Or.inl ⟨by rfl, ?_⟩) ?_ ?_
  rotate_left
  · intro w'
    go_simp
    with_reducible rfl
  rotate_left
  · simp only [Act.put, List.setIfInBounds_toArray, List.set_cons_zero, List.set_cons_succ, i64_w, i32_w]
    rfl
  refine last_ (i := 6) (N := some 23) #[true, true, true, true, true, true, true, false] rfl rfl (by kernel_rfl) (by decide) (fun K hK => ?_)
  refine box_step ?hg (N := 23) ?hd (cs := #[.slice A1 l.length c1, .slice A2 l.length c2, .int .i64 a0, .int .i64 a1, .int .i64 a2, .int .i64 a3, .int .i64 a4, .int .i64 a5, .int .i64 a6, .int .i64 a7, .int .i64 a8, .int .i64 a9, .int .i64 a10, .int .i64 a11, .int .i64 a12, .int .i64 a13, .int .i64 a14, .int .i64 a15, .slice none 0 0, .int .i64 15]) (t := 101) ?hr ?_; (case hd => rfl); (case hg => rfl); (case hr => first | (go_simp; done) | (go_simp; rfl))
  intro T hT4 w4 hbox hb4
  replace hT4 := Aside0.mk hT4
  refine hK.out _ _ ?_
  clear hK K
  refine norm_ (a' := ?_) ?_ ?_
  rotate_left
  · show Act.put _ (some 23) _ = _
    simp only [Act.put, List.setIfInBounds_toArray, List.set_cons_zero, List.set_cons_succ, i64_w, i32_w]
    rfl
  refine pure_ (i := 7) (N := some 6) (v := ?_) (a' := ?_) #[true, true, true, true, true, true, true, true] rfl rfl (by kernel_rfl) (fun _ _ _ h => h) (Or.inl ⟨by rfl, ?_⟩) ?_ ?_
  rotate_left
  · intro w'
    go_simp
    with_reducible rfl
  rotate_left
  · simp only [Act.put, List.setIfInBounds_toArray, List.set_cons_zero, List.set_cons_succ, i64_w, i32_w]
    rfl
  refine done_ (by kernel_rfl) ?_
  have hCl3 : Aside0 (Kd.C (Kd.int .i64) w3 A1 l.length l) := ⟨own_C (hF3.out.own hO2.out (fun _ _ e => e)) (by omega)⟩
  have hF23 := Aside0.mk (((Fr.refl (fun _ => False) w1).drew.then_ (Fr.of_below hB2.out)).then_ hF3.out)
  have hCc3 : Aside0 (Kd.C (Kd.int .i64) w3 A2 C.length C) := ⟨own_C (hF23.out.own hO.out (fun _ _ e => e)) (by omega)⟩
  have hbw3 := Aside0.mk (hbw1.out.trans (hF23.out.to_below (fun _ _ _ e => e) hbw1.out.size))
  have hbx3 : Aside0 (w3.cell? ⟨W.heap.size, 0, none⟩ = some (.slice A l.length c)) := ⟨((hF23.out.to_below (B := w1.heap.size) (fun _ _ _ e => e) (Nat.le_refl _)).cell (p := ⟨W.heap.size, 0, none⟩) (World.block_lt_of_cell? w1.drew ⟨W.heap.size, 0, none⟩ hS0)).trans hS0⟩
  have hWT : W.heap.size < T := by rw [hT4.out]; exact World.block_lt_of_cell? w3 ⟨W.heap.size, 0, none⟩ hbx3.out
  have hbx : w4.cell? ⟨W.heap.size, 0, none⟩ = some (.slice A l.length c) := (hb4.cell (p := ⟨W.heap.size, 0, none⟩) (by rw [← hT4.out]; exact hWT)).trans hbx3.out
  have hTw4 : T < w4.heap.size := blk_lt hbox
  have hrow0 : Aside0 (w4.heap[T]? = some (.cells #[.slice A1 l.length c1, .slice A2 l.length c2, .int .i64 a0, .int .i64 a1, .int .i64 a2, .int .i64 a3, .int .i64 a4, .int .i64 a5, .int .i64 a6, .int .i64 a7, .int .i64 a8, .int .i64 a9, .int .i64 a10, .int .i64 a11, .int .i64 a12, .int .i64 a13, .int .i64 a14, .int .i64 a15, .slice none 0 0, .int .i64 15] 101 (0, 0))) := ⟨hbox⟩
  replace hb4 := Aside0.mk hb4
  clear hbox hHeld hS0 hF3 hO2 hB2 hO hB hC1 hF23 hcnt hcl60 hcod
  go_wp2
  go_loopg [26] l.length (fun gh v26 wr => ∃ (i : Nat) (ss : List Nat) (A3 : Option Addr) (c3 : Nat), v26 = .int .i64 (i : Int) ∧ i ≤ l.length ∧ l.length - i ≤ gh ∧ ss.length ≤ i ∧ Aside0 (wr.heap[T]? = some (.cells #[.slice A1 l.length c1, .slice A2 l.length c2, .int .i64 a0, .int .i64 a1, .int .i64 a2, .int .i64 a3, .int .i64 a4, .int .i64 a5, .int .i64 a6, .int .i64 a7, .int .i64 a8, .int .i64 a9, .int .i64 a10, .int .i64 a11, .int .i64 a12, .int .i64 a13, .int .i64 a14, .int .i64 a15, .slice A3 ss.length c3, .int .i64 15] 101 (0, 0)) ∧ wr.ownsRow w4.heap.size 3 1 (.slice A3 ss.length c3) ss.length (nums .i64 (symInts ss)) ∧ (ss = [] → A3 = none ∧ c3 = 0) ∧ ss ++ symGo (l.drop i) i = symGo l 0 ∧ Fr (· = T) w4 wr))
  case atStart => exact ⟨0, [], none, 0, rfl, Nat.zero_le _, by omega, Nat.zero_le _, ⟨hrow0.out, World.ownsRow_nil _ _ _ _, fun _ => ⟨rfl, rfl⟩, rfl, Fr.refl _ _⟩⟩
  case round =>
    obtain ⟨i, ss, A3, c3, rfl, hi, hgh, hsl, HR⟩ := hrel
    have hTT := HR.out.1
    have hwr := Aside0.mk (HR.out.2.2.2.2.to_below (B := T) (fun k hk _ e => by omega) (Nat.le_of_lt hTw4))
    have hw3r : Aside0 (Below T w3 wr) := ⟨by have := hb4.out; rw [← hT4.out] at this; exact this.trans hwr.out⟩
    have hWr : Aside0 (Below W.heap.size W wr) := ⟨hbw3.out.trans (hw3r.out.mono (Nat.le_of_lt hWT))⟩
    have hcb : Aside0 (wr.cell? ⟨W.heap.size, 0, none⟩ = some (.slice A l.length c)) := ⟨(hw3r.out.cell (p := ⟨W.heap.size, 0, none⟩) hWT).trans hbx3.out⟩
    have hNB : Aside0 (w4.heap.size ≤ wr.heap.size) := ⟨HR.out.2.2.2.2.size⟩
    by_cases hc : i < l.length
    · have hcb1 : decide ((i : Int) < (l.length : Int)) = true := decide_eq_true (by omega)
      have hcb1' : decide (i < l.length) = true := decide_eq_true hc
      obtain ⟨ad, eA, hx⟩ := Kd.at_int (Kd.C_below hC.out hWr.out) (i : Int) (by omega) (by omega)
      cases eA
      rw [Int.toNat_natCast] at hx
      have p0 := eq_true (show (0 : Int) ≤ (i : Int) by omega)
      have q0 := eq_true (show (i : Int) < (l.length : Int) by omega)
      obtain ⟨y, hxx⟩ : ∃ y, rd l (i : Int) = y := ⟨_, rfl⟩
      rw [hxx] at hx
      have hle : l[i] = y := by
        rw [← hxx]
        unfold rd
        rw [Int.toNat_natCast, List.getD_eq_getElem?_getD, List.getElem?_eq_getElem hc]
        rfl
      have hT2 := HR.out.2.2.2.1
      rw [List.drop_eq_getElem_cons hc, hle, symGo_cons] at hT2
      clear hxx hle hbx
      by_cases h0 : 0 < y
      · have h0b : decide (0 < y) = true := decide_eq_true h0
        rw [if_pos h0] at hT2
        replace hT2 := Aside0.mk hT2
        have c18 := (blk_cell hTT 18).trans (show _ = some (.slice A3 ss.length c3) from rfl)
        have hown : Aside0 (wr.ownsRow w4.heap.size 3 1 (.slice A3 ss.length c3) ss.length (nums .i64 (symInts ss))) := ⟨HR.out.2.1⟩
        have hnews : Aside0 (∀ j u, ([.int .i64 (i : Int)] : List Value)[j]? = some u → (wr.alloc (.cells #[.int .i64 (i : Int)] 3)).cell? ((⟨wr.heap.size, 0, none⟩ : Addr).add j) = some u) := ⟨by simpa using World.news_of_block (cs := #[.int .i64 (i : Int)]) (t := 3) (fr := (0, 0)) (heap_alloc_new wr (.cells #[.int .i64 (i : Int)] 3))⟩
        have hone : Aside0 (∀ u ∈ ([.int .i64 (i : Int)] : List Value), u.oneCell' = true) := ⟨fun u hu => by simp only [List.mem_cons, List.not_mem_nil, or_false] at hu; rcases hu with rfl; rfl⟩
        have hbase : Aside0 (w4.heap.size ≤ (wr.alloc (.cells #[.int .i64 (i : Int)] 3)).heap.size) := ⟨by have := hNB.out; simp; omega⟩
        replace hTT := Aside0.mk hTT
        go_wp2_with (at_builtin; (refine wpList_append_own _ rfl (.tmp 37) (.tmp 39) 51 rfl w4.heap.size 3 i0 (.int .i64 0) 1 8 Try.underlying51 hinf hz0 hz1 hz2 rfl (by decide) (.slice A3 ss.length c3) ss.length (nums .i64 (symInts ss)) rfl (hown.out.alloc _) ⟨wr.heap.size, 0, none⟩ 1 1 [.int .i64 (i : Int)] rfl rfl hnews.out hone.out (by unfold maxLen; omega) (by omega) hbase.out ?_); intro v1 w5 hown1 hgrow1 _; obtain ⟨A4, c4, rfl⟩ := own_slice hown1; replace hown1 := Aside0.mk hown1; replace hgrow1 := Aside0.mk hgrow1; have hT5 := Aside0.mk ((hgrow1.out.block T (Nat.lt_of_lt_of_le (blk_lt hTT.out) (by simp)) (own_ne hown.out hTT.out (by decide))).trans ((heap_alloc_old _ _ (blk_lt hTT.out)).trans hTT.out)); have c5 := (blk_cell hT5.out 18).trans (show _ = some (.slice A3 ss.length c3) from rfl); have f5 := blk_frozen hT5.out 18)
        go_roundg (l.length - (i + 1))
        case measure => omega
        case rel =>
          have hne := own_ne hown1.out hT5.out (by decide)
          refine ⟨i + 1, ss ++ [i], A4, c4, by go_num, by omega, by omega, by simp; omega, ⟨?_, ?_, fun h => by simp at h, by rw [← hT2.out]; simp, ?_⟩⟩
          · have := blk_set hT5.out 18 (.slice A4 (ss.length + 1) c4)
            rw [List.length_append, List.length_singleton]
            exact this
          · have := own_setCell (p := ⟨T, 18, none⟩) hown1.out hne (.slice A4 (ss.length + 1) c4)
            have e : nums .i64 (symInts (ss ++ [i])) = nums .i64 (symInts ss) ++ [.int .i64 (i : Int)] := by simp [nums, symInts]
            rw [List.length_append, List.length_singleton, e]
            exact this
          · exact (HR.out.2.2.2.2.trans (T := fun k => w4.heap.size ≤ k) (((Fr.refl _ wr).alloc _).grown hgrow1.out (fun k e he => (own_base hown.out k e))) (fun k hk h => by omega)).set_ _ _ (fun _ => rfl)
      · have h0b : decide (0 < y) = false := decide_eq_false h0
        rw [if_neg h0] at hT2
        replace hT2 := Aside0.mk hT2
        go_wp2
        go_roundg (l.length - (i + 1))
        case measure => omega
        case rel => exact ⟨i + 1, ss, A3, c3, by go_num, by omega, by omega, by omega, ⟨HR.out.1, HR.out.2.1, HR.out.2.2.1, hT2.out, HR.out.2.2.2.2⟩⟩
    · have hcb1 : decide ((i : Int) < (l.length : Int)) = false := decide_eq_false (by omega)
      have hcb1' : decide (i < l.length) = false := decide_eq_false hc
      obtain rfl : i = l.length := by omega
      have hss : ss = symGo l 0 := by
        have := HR.out.2.2.2.1
        rwa [List.drop_eq_nil_of_le (Nat.le_refl _), show symGo [] l.length = [] from rfl, List.append_nil] at this
      have hfin : Aside0 (∀ (W' : World) (S : List Nat) (m : Nat) (A4 : Option Addr) (c4 : Nat), S = symQ l → m = mostQ S → S.length ≤ 288 → Fr (· = T) w4 W' → W'.heap[T]? = some (.cells #[.slice A1 l.length c1, .slice A2 l.length c2, .int .i64 a0, .int .i64 a1, .int .i64 a2, .int .i64 a3, .int .i64 a4, .int .i64 a5, .int .i64 a6, .int .i64 a7, .int .i64 a8, .int .i64 a9, .int .i64 a10, .int .i64 a11, .int .i64 a12, .int .i64 a13, .int .i64 a14, .int .i64 a15, .slice A4 S.length c4, .int .i64 (m : Int)] 101 (0, 0)) → W'.ownsRow w4.heap.size 3 1 (.slice A4 S.length c4) S.length (nums .i64 (symInts S)) → MkPost W l (.returned (.tuple #[.pointer (some ⟨T, 0, none⟩), .int .i64 0])) W') := ⟨fun W' S m A4 c4 h1 h2 h3 h4 h5 h6 => by
        subst h1
        subst h2
        have hb3 : Below T w3 W' := by have := hb4.out; rw [← hT4.out] at this; exact this.trans (h4.to_below (B := T) (fun k hk _ e => by omega) (Nat.le_of_lt hTw4))
        have hb3' := hb3
        rw [hT4.out] at hb3'
        have hsl : (symInts (symQ l)).length = (symQ l).length := by simp [symInts]
        have hq := own_C (l := symInts (symQ l)) (by rw [hsl]; exact h6) (by rw [hsl]; omega)
        rw [hsl] at hq
        refine ⟨T, ⟨A1, c1, A2, c2, A4, c4⟩, rfl, ⟨?_, tally_len l, Kd.C_below hCl3.out hb3', ?_, hq⟩, hbw3.out.trans (hb3.mono (Nat.le_of_lt hWT))⟩
        · rw [hcd.out, hcl, ho.out]
          exact h5
        · rw [hcd.out]
          exact Kd.C_below hCc3.out hb3'⟩
      have hlen : ss.length ≤ 288 := by omega
      by_cases hnil : ss = []
      · obtain ⟨rfl, rfl⟩ := HR.out.2.2.1 hnil
        subst hnil
        replace hss := Aside0.mk hss
        have c18 := (blk_cell hTT 18).trans (show _ = some (.slice none 0 0) from rfl)
        have c19 := (blk_cell hTT 19).trans (show _ = some (.int .i64 15) from rfl)
        have f19 := blk_frozen hTT 19
        replace hTT := Aside0.mk hTT
        clear hbx
        go_wp2_with (go_at_call 61; refine (nil61 _ _).mono ?_; rintro e w6 ⟨rfl, hw6⟩; rw [hw6]; clear hw6)
        go_ret2
        refine hfin.out _ [] 0 none 0 ?_ rfl (by simp) (HR.out.2.2.2.2.set_ _ _ (fun _ => rfl)) (blk_set hTT.out 19 (.int .i64 0)) (World.ownsRow_nil _ _ _ _)
        unfold symQ
        rw [← hss.out]
        rfl
      · have hss0 : 0 < ss.length := by
          cases ss with
          | nil => exact absurd rfl hnil
          | cons x r => simp
        obtain ⟨g, rfl⟩ : ∃ g, A3 = some ⟨g, 0, none⟩ := by
          rcases HR.out.2.1.2 with ⟨h1, h2⟩ | ⟨g, cap, cur, hv, _⟩
          · injection h1 with _ h3 _
            omega
          · cases hv
            exact ⟨g, rfl⟩
        have hgN : w4.heap.size ≤ g := own_base HR.out.2.1 g rfl
        have hmem : ∀ x ∈ ss, x < l.length := fun x hx => by
          rw [hss] at hx
          have := symGo_mem l 0 x hx
          omega
        have hsort := sortSym wr w4.heap.size g c3 W.heap.size A c l ss HR.out.2.1 hmem (by omega) hcb.out (Kd.C_below hC.out hWr.out) (by omega) (fun ad e he => by
          obtain ⟨ad', e', hx⟩ := Kd.at_int hC.out (0 : Int) (by omega) (by omega)
          rw [e] at e'
          cases e'
          have := World.block_lt_of_cell? W _ hx
          rw [add_block] at this
          omega) (by have := hmem (ss.head (fun h => hnil h)) (List.head_mem _); omega)
        replace hsort := Aside0.mk hsort
        replace hmem := Aside0.mk hmem
        have hsl : (isort (symKey l) ss).length = ss.length := isort_length _ _
        have hsq : isort (symKey l) ss = symQ l := by unfold symQ; rw [hss]
        generalize isort (symKey l) ss = S at *
        obtain ⟨k, hk⟩ : ∃ k, ss.length = k := ⟨_, rfl⟩
        rw [hk] at hsort hsl hlen hss0 hTT
        have hkk := HR.out.2.2.2.2
        have c18 := (blk_cell hTT 18).trans (show _ = some (.slice (some ⟨g, 0, none⟩) k c3) from rfl)
        replace hTT := Aside0.mk hTT
        replace hkk := Aside0.mk hkk
        replace hk := Aside0.mk hk
        replace hsl := Aside0.mk hsl
        replace hsq := Aside0.mk hsq
        clear hss hnil hbx hgh HR
        by_cases h2 : k < 2
        · have k2 : decide ((k : Int) < 2) = true := decide_eq_true (by omega)
          have k2' : decide (k < 2) = true := decide_eq_true h2
          go_wp2_with (go_at_call 61; refine hsort.out.mono ?_; rintro e w6 ⟨rfl, hO6, hG6⟩; replace hO6 := Aside0.mk hO6; replace hG6 := Aside0.mk hG6; have hT6 := Aside0.mk ((hG6.out.block T (blk_lt hTT.out) (by simp; omega)).trans hTT.out); have c18 := (blk_cell hT6.out 18).trans (show _ = some (.slice (some ⟨g, 0, none⟩) k c3) from rfl); have c19 := (blk_cell hT6.out 19).trans (show _ = some (.int .i64 15) from rfl); have f19 := blk_frozen hT6.out 19)
          go_ret2
          have hfr := hkk.out.trans (T := fun q => w4.heap.size ≤ q) ((Fr.refl _ wr).grown hG6.out (fun q e he => by cases e; exact hgN)) (fun q hq h => by omega)
          have hO := hO6.out
          rw [← hsl.out] at hO
          refine hfin.out _ S k (some ⟨g, 0, none⟩) c3 hsq.out (by unfold mostQ; rw [hsl.out, if_pos h2]) (by rw [hsl.out]; omega) (hfr.set_ _ _ (fun _ => rfl)) ?_ (own_setCell (p := ⟨T, 19, none⟩) hO (own_ne hO hT6.out (by decide)) _)
          rw [hsl.out]
          exact blk_set hT6.out 19 (.int .i64 (k : Int))
        · have k2 : decide ((k : Int) < 2) = false := decide_eq_false (by omega)
          have k2' : decide (k < 2) = false := decide_eq_false h2
          go_wp2_with (go_at_call 61; refine hsort.out.mono ?_; rintro e w6 ⟨rfl, hO6, hG6⟩; replace hO6 := Aside0.mk hO6; replace hG6 := Aside0.mk hG6; have hT6 := Aside0.mk ((hG6.out.block T (blk_lt hTT.out) (by simp; omega)).trans hTT.out); have c18 := (blk_cell hT6.out 18).trans (show _ = some (.slice (some ⟨g, 0, none⟩) k c3) from rfl))
          go_ret2
          have hfr := hkk.out.trans (T := fun q => w4.heap.size ≤ q) ((Fr.refl _ wr).grown hG6.out (fun q e he => by cases e; exact hgN)) (fun q hq h => by omega)
          have hO := hO6.out
          rw [← hsl.out] at hO
          refine hfin.out _ S 15 (some ⟨g, 0, none⟩) c3 hsq.out (by unfold mostQ; rw [hsl.out, if_neg h2]) (by rw [hsl.out]; omega) hfr ?_ hO
          rw [hsl.out]
          exact hT6.out
end Go.Proofs.Ytpldapjcojjicaa.B
