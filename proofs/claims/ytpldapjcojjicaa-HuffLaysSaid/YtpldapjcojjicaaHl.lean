/- HuffLays: the walk: what is laid for symbols is what the document lays. -/
import Derived.Test.YtpldapjcojjicaaUm
import Derived.Test.YtpldapjcojjicaaLx
import Derived.Test.YtpldapjcojjicaaA4
namespace Go.Proofs.Ytpldapjcojjicaa.B
open Go.Proofs Go.RowKit Go.Proofs.YtpldapjcojjicaaW.PrintWords Go.Proofs.YtpldapjcojjicaaW.PrintLast Go.Proofs.YtpldapjcojjicaaW.PrintMore Go.Proofs.Ytpldapjcojjicaa.Pl
set_option linter.unusedVariables false
set_option linter.unusedSimpArgs false

theorem lays_bad (W : World) (A : Option Addr) (c : Nat) (l : List Int) (hC : Kd.C (Kd.int .i64) W A l.length l) (hl : l.length ≤ 100000000000000) (hc : l.length ≤ c) (h : checkF l ≠ 0) (x : Value) :
    Calls Try.prog 13 #[.slice A l.length c, x] W fun e W' => e = .returned (.bool true) ∧ Below W.heap.size W W' := by
  have hAw : ∀ w, Calls Try.prog 36 #[] w fun e w' => e = .returned (.bool true) ∧ Below w.heap.size w w' := fun w => vitrinelaw02_awake.calls true w rfl
  have hmk := Aside0.mk (make_bad W A c l hC hl h)
  have hrm := Aside0.mk (fun W' (hb : Below W.heap.size W W') => refmake_bad W' A c l (Kd.C_below hC hb) hc h)
  clear h hC
  generalize checkF l = y at *
  go_enter Try.func13, Try.ntmps13
  go_wp2_with (first | (go_at_call 42; refine hmk.out.mono ?_; rintro e w1 ⟨rfl, hB⟩; replace hB := Aside0.mk hB) | (go_at_call 43; refine (hrm.out _ hB.out).mono ?_; rintro e w2 ⟨rfl, hB2⟩; replace hB2 := Aside0.mk hB2) | (go_at_call 36; refine (hAw _).mono ?_; rintro e w3 ⟨rfl, hB3⟩; replace hB3 := Aside0.mk hB3))
  go_ret
  have h2 := hB.out.trans (hB2.out.mono hB.out.size)
  exact ⟨rfl, h2.trans (hB3.out.mono h2.size)⟩

theorem codesL_bd (l : List Int) (h : checkF l = 0) : ∀ x ∈ codesL l, 0 ≤ x ∧ x ≤ 100000000 := by
  obtain ⟨h288, hbad⟩ := checkF_ok h
  have hg := Pure.good_of hbad
  rw [Pure.codesL_is l hg]
  have hF : ∀ j : Nat, 0 ≤ (firstF (tally l)).getD j 0 ∧ (firstF (tally l)).getD j 0 ≤ 20000000 ∨ 15 < j := fun j => by
    by_cases hj : 15 < j
    · exact .inr hj
    · have hb := firstK_bd (tally l) (fun j => ⟨(tally_bd l j).1, by have := (tally_bd l j).2; omega⟩) 14 j
      have hp : (2 : Nat) ^ j ≤ 2 ^ 15 := Nat.pow_le_pow_right (by omega) (by omega)
      left
      unfold firstF
      omega
  have key : ∀ (r pre : List Int), (∀ x ∈ pre ++ r, 0 ≤ x ∧ x ≤ 15) → (pre ++ r).length ≤ 288 → ∀ x ∈ Pure.upto (firstF (tally l)) 15 pre r, 0 ≤ x ∧ x ≤ 100000000 := by
    intro r
    induction r with
    | nil => intro pre _ _ x hx; cases hx
    | cons a r ih =>
      intro pre hp hl x hx
      rw [Pure.upto_cons] at hx
      rcases List.mem_cons.1 hx with rfl | hx
      · have ha := hp a (by simp)
        have hc := Pure.cnt_bd a pre
        rw [List.length_append] at hl
        split
        · have := hF a.toNat
          omega
        · omega
      · exact ih (pre ++ [a]) (by simpa using hp) (by simpa using hl) x hx
  exact key l [] hg (by simpa using h288)
set_option maxHeartbeats 4000000 in
set_option maxRecDepth 100000 in
theorem lays_good (W : World) (A : Option Addr) (c : Nat) (l : List Int) (hC : Kd.C (Kd.int .i64) W A l.length l) (hc : l.length ≤ c) (h : checkF l = 0) (A0 : Option Addr) (c0 : Nat) (sy : List Int) (hS : Kd.C (Kd.int .i64) W A0 sy.length sy) (hsl : sy.length ≤ 100000000000000) :
    Calls Try.prog 13 #[.slice A l.length c, .slice A0 sy.length c0] W fun e W' => e = .returned (.bool true) ∧ Below W.heap.size W W' := by
  have hAw : ∀ w, Calls Try.prog 36 #[] w fun e w' => e = .returned (.bool true) ∧ Below w.heap.size w w' := fun w => vitrinelaw02_awake.calls true w rfl
  obtain ⟨h288, hbad⟩ := checkF_ok h
  have hg : ∀ x ∈ l, 0 ≤ x ∧ x ≤ 15 := Pure.good_of hbad
  have hcb := codesL_bd l h
  have hcl : (codesL l).length = l.length := by unfold codesL; rw [codesGo_len]; simp
  have hmk := Aside0.mk (make_good W A c l hC h)
  have hrm := Aside0.mk (fun W' (hb : Below W.heap.size W W') => refmake_good W' A c l (Kd.C_below hC hb) hc h)
  replace hC := Aside0.mk hC
  replace hS := Aside0.mk hS
  replace hg := Aside0.mk hg
  replace hcb := Aside0.mk hcb
  replace hcl := Aside0.mk hcl
  clear h hbad
  go_enter Try.func13, Try.ntmps13
  go_wp2_with (first | (go_at_call 42; refine hmk.out.mono ?_; rintro e w1 ⟨T, t, rfl, hT, hB⟩; replace hT := Aside0.mk hT; replace hB := Aside0.mk hB) | (go_at_call 43; refine (hrm.out _ hB.out).mono ?_; rintro e w2 ⟨T2, A1, c1, A2, c2, rfl, hU, hB2⟩; replace hU := Aside0.mk hU; replace hB2 := Aside0.mk hB2) | (go_at_call 25; refine (new_calls _).mono ?_; rintro e w3 ⟨rfl, rfl⟩))
  have hT2 := Aside0.mk (hT.out.below (hB2.out))
  have hbw := Aside0.mk (hB.out.trans (hB2.out.mono hB.out.size))
  have HS0 := Aside0.mk (bw_start w2)
  clear hT hB hB2 hmk hrm
  go_loopg [11] 200 (fun gh v11 wr => ∃ (i : Nat) (v u : Value) (ys : List Int) (h n : Nat), v11 = .int .i64 (i : Int) ∧ i ≤ 200 ∧ 200 - i ≤ gh ∧ n ≤ 7 ∧ ys.length ≤ 100 * i ∧ Aside0 (h < 2 ^ n ∧ BW w2 wr v u ys h n ys h n))
  case atStart => exact ⟨0, _, _, [], 0, 0, rfl, by omega, by omega, by omega, by simp, ⟨by decide, HS0.out⟩⟩
  case round =>
    clear HS0
    obtain ⟨i, v, u, ys, h, n, rfl, hi, hgh, hn, hyl, HR⟩ := hrel
    have hWr := hbw.out.trans (HR.out.2.bel.mono hbw.out.size)
    by_cases hc1 : i < sy.length ∧ i < 200
    · have hcb1 : decide ((i : Int) < (sy.length : Int)) = true := decide_eq_true (by omega)
      have hcb1' : decide (i < sy.length) = true := decide_eq_true hc1.1
      have hcb2 : decide ((i : Int) < 200) = true := decide_eq_true (by omega)
      have hcb2' : decide (i < 200) = true := decide_eq_true hc1.2
      obtain ⟨ad, eA, hx2⟩ := Kd.at_int (Kd.C_below hS.out hbw.out) (i : Int) (by omega) (by omega)
      cases eA
      rw [Int.toNat_natCast] at hx2
      have hx := (HR.out.2.bel.cell (World.block_lt_of_cell? w2 _ hx2)).trans hx2
      have p0 := eq_true (show (0 : Int) ≤ (i : Int) by omega)
      have q0 := eq_true (show (i : Int) < (sy.length : Int) by omega)
      obtain ⟨y, hy⟩ : ∃ y, rd sy (i : Int) = y := ⟨_, rfl⟩
      rw [hy] at hx hx2
      clear hy
      have hlay := fun w' (s : BW w2 w' v u ys h n ys h n) => lay_calls hT2.out hg.out hcl.out h288 hcb.out s hn HR.out.1 (by omega) y
      have hok := layF_ok l (codesL l) hg.out y (ys, h, n) HR.out.1 hn
      have hvlay := fun w' (v' : Value) (s : BW w2 w' v' u (layF l (codesL l) y (ys, h, n)).2.1 (layF l (codesL l) y (ys, h, n)).2.2.1 (layF l (codesL l) y (ys, h, n)).2.2.2 ys h n) => vlay_calls hU.out hg.out hcl.out h288 hcb.out s hn HR.out.1 (by omega) y
      generalize layF l (codesL l) y (ys, h, n) = r at hlay hok hvlay
      obtain ⟨e0, y2, h2, n2⟩ := r
      simp only at hlay hok hvlay
      have hok1 := hok.2.1
      have hok2 := hok.2.2
      replace hok := Aside0.mk hok
      replace hlay := Aside0.mk hlay
      replace hvlay := Aside0.mk hvlay
      replace hx2 := Aside0.mk hx2
      replace hWr := Aside0.mk hWr
      go_wp2
      refine start_ (n := 15) (S := fun w' => w'.cell? (ad.add i) = some (.int .i64 y)) (ds := [13, 14]) #[false, false, false, false, false, false, false, false, false, false, false, false, false, false, false] (by kernel_rfl) rfl rfl hx (fun hHeld => ?_)
      refine pure_ (i := 0) (N := some 48) (v := ?_) (a' := ?_) #[true, false, false, false, false, false, false, false, false, false, false, false, false, false, false] rfl rfl (by kernel_rfl) (fun _ _ _ h => h) (Or.inl ⟨by rfl, ?_⟩) ?_ ?_
      rotate_left
      · intro w'
        go_simp
        with_reducible rfl
      rotate_left
      · simp only [Act.put, List.setIfInBounds_toArray, List.set_cons_zero, List.set_cons_succ, i64_w, i32_w]
        rfl
      refine pure_ (i := 1) (N := some 49) (v := ?_) (a' := ?_) #[true, true, false, false, false, false, false, false, false, false, false, false, false, false, false] rfl rfl (by kernel_rfl) (fun _ _ _ h => h) (Or.inl ⟨by rfl, ?_⟩) ?_ ?_
      rotate_left
      · intro w'
        go_simp
        with_reducible rfl
      rotate_left
      · simp only [Act.put, List.setIfInBounds_toArray, List.set_cons_zero, List.set_cons_succ, i64_w, i32_w]
        rfl
      refine pure_ (i := 2) (N := some 50) (v := ?_) (a' := ?_) #[true, true, true, false, false, false, false, false, false, false, false, false, false, false, false] rfl rfl (by kernel_rfl) (fun _ _ _ h => h) (Or.inl ⟨by rfl, ?_⟩) ?_ ?_
      rotate_left
      · intro w'
        go_simp
        with_reducible rfl
      rotate_left
      · simp only [Act.put, List.setIfInBounds_toArray, List.set_cons_zero, List.set_cons_succ, i64_w, i32_w]
        rfl
      refine pure_ (i := 3) (N := some 51) (v := ?_) (a' := ?_) #[true, true, true, true, false, false, false, false, false, false, false, false, false, false, false] rfl rfl (by kernel_rfl) (fun _ _ _ h => h) (Or.inl ⟨by rfl, ?_⟩) ?_ ?_
      rotate_left
      · intro w'
        go_simp
        with_reducible rfl
      rotate_left
      · simp only [Act.put, List.setIfInBounds_toArray, List.set_cons_zero, List.set_cons_succ, i64_w, i32_w]
        rfl
      refine pure_ (i := 4) (N := some 52) (v := ?_) (a' := ?_) #[true, true, true, true, true, false, false, false, false, false, false, false, false, false, false] rfl rfl (by kernel_rfl) (fun _ _ _ h => h) (Or.inl ⟨by rfl, ?_⟩) ?_ ?_
      rotate_left
      · intro w'
        go_simp
        with_reducible rfl
      rotate_left
      · simp only [Act.put, List.setIfInBounds_toArray, List.set_cons_zero, List.set_cons_succ, i64_w, i32_w]
        rfl
      refine pure_ (i := 7) (N := some 55) (v := ?_) (a' := ?_) #[true, true, true, true, true, false, false, true, false, false, false, false, false, false, false] rfl rfl (by kernel_rfl) (fun _ _ _ h => h) (Or.inl ⟨by rfl, ?_⟩) ?_ ?_
      rotate_left
      · intro w'
        go_simp
        with_reducible rfl
      rotate_left
      · simp only [Act.put, List.setIfInBounds_toArray, List.set_cons_zero, List.set_cons_succ, i64_w, i32_w]
        rfl
      refine pure_ (i := 8) (N := some 56) (v := ?_) (a' := ?_) #[true, true, true, true, true, false, false, true, true, false, false, false, false, false, false] rfl rfl (by kernel_rfl) (fun _ _ _ h => h) (Or.inl ⟨by rfl, ?_⟩) ?_ ?_
      rotate_left
      · intro w'
        go_simp
        with_reducible rfl
      rotate_left
      · simp only [Act.put, List.setIfInBounds_toArray, List.set_cons_zero, List.set_cons_succ, i64_w, i32_w]
        rfl
      refine pure_ (i := 9) (N := some 57) (v := ?_) (a' := ?_) #[true, true, true, true, true, false, false, true, true, true, false, false, false, false, false] rfl rfl (by kernel_rfl) (fun _ _ _ h => h) (Or.inl ⟨by rfl, ?_⟩) ?_ ?_
      rotate_left
      · intro w'
        go_simp
        with_reducible rfl
      rotate_left
      · simp only [Act.put, List.setIfInBounds_toArray, List.set_cons_zero, List.set_cons_succ, i64_w, i32_w]
        rfl
      refine pure_ (i := 10) (N := some 58) (v := ?_) (a' := ?_) #[true, true, true, true, true, false, false, true, true, true, true, false, false, false, false] rfl rfl (by kernel_rfl) (fun _ _ _ h => h) (Or.inl ⟨by rfl, ?_⟩) ?_ ?_
      rotate_left
      · intro w'
        go_simp
        with_reducible rfl
      rotate_left
      · simp only [Act.put, List.setIfInBounds_toArray, List.set_cons_zero, List.set_cons_succ, i64_w, i32_w]
        rfl
      refine pure_ (i := 11) (N := some 59) (v := ?_) (a' := ?_) #[true, true, true, true, true, false, false, true, true, true, true, true, false, false, false] rfl rfl (by kernel_rfl) (fun _ _ _ h => h) (Or.inl ⟨by rfl, ?_⟩) ?_ ?_
      rotate_left
      · intro w'
        go_simp
        with_reducible rfl
      rotate_left
      · simp only [Act.put, List.setIfInBounds_toArray, List.set_cons_zero, List.set_cons_succ, i64_w, i32_w]
        rfl
      refine take_ (i := 5) (N := some 53) (v := ?_) (a' := ?_) #[true, true, true, true, true, true, false, true, true, true, true, true, false, false, false] rfl rfl (by kernel_rfl) (fun _ _ _ h => h) (Or.inl ⟨by rfl, ?_⟩) hHeld ?_ ?_
      rotate_left
      · intro w' s0
        go_simp
        with_reducible rfl
      rotate_left
      · simp only [Act.put, List.setIfInBounds_toArray, List.set_cons_zero, List.set_cons_succ, i64_w, i32_w]
        rfl
      refine take_ (i := 12) (N := some 60) (v := ?_) (a' := ?_) #[true, true, true, true, true, true, false, true, true, true, true, true, true, false, false] rfl rfl (by kernel_rfl) (fun _ _ _ h => h) (Or.inl ⟨by rfl, ?_⟩) hHeld ?_ ?_
      rotate_left
      · intro w' s0
        go_simp
        with_reducible rfl
      rotate_left
      · simp only [Act.put, List.setIfInBounds_toArray, List.set_cons_zero, List.set_cons_succ, i64_w, i32_w]
        rfl
      refine one_ (i := 6) (N := some 54) #[true, true, true, true, true, true, true, true, true, true, true, true, true, false, false] rfl rfl (by kernel_rfl) (by decide) (fun K hK => ?_)
      refine goes_ Try.func44 (by kernel_rfl) rfl #[.pointer (some ⟨T, 0, none⟩), .pointer (some ⟨w2.heap.size, 0, none⟩), .int .i64 y] (by rfl) rfl rfl (by simp only [List.map_toArray, List.map_cons, List.map_nil]; rfl) ?_
      with_reducible refine (hlay.out _ (HR.out.2.byN ((Fr.refl _ _).drew))).mono ?_
      rintro e w3 ⟨rfl, v3, s3⟩
      refine ⟨_, rfl, ?_⟩
      refine hK.out _ _ ((s3.bel.cell (World.block_lt_of_cell? w2 _ hx2.out)).trans hx2.out) (fun hHeld => ?_)
      clear hK K
      refine norm_ (a' := ?_) ?_ ?_
      rotate_left
      · show Act.put _ (some 54) _ = _
        simp only [Act.put, List.setIfInBounds_toArray, List.set_cons_zero, List.set_cons_succ, i64_w, i32_w]
        rfl
      refine last_ (i := 13) (N := some 61) #[true, true, true, true, true, true, true, true, true, true, true, true, true, true, false] rfl rfl (by kernel_rfl) (by decide) (fun K hK => ?_)
      refine goes_ Try.func45 (by kernel_rfl) rfl #[.pointer (some ⟨T2, 0, none⟩), .pointer (some ⟨w2.heap.size + 1, 0, none⟩), .int .i64 y] (by rfl) rfl rfl (by simp only [List.map_toArray, List.map_cons, List.map_nil]; rfl) ?_
      with_reducible refine (hvlay.out _ _ s3).mono ?_
      rintro e w4 ⟨rfl, u4, s4⟩
      replace s4 := Aside0.mk s4
      refine ⟨_, rfl, ?_⟩
      refine hK.out _ _ ?_
      clear hK K
      refine norm_ (a' := ?_) ?_ ?_
      rotate_left
      · show Act.put _ (some 61) _ = _
        simp only [Act.put, List.setIfInBounds_toArray, List.set_cons_zero, List.set_cons_succ, i64_w, i32_w]
        rfl
      refine pure_ (i := 14) (N := some 62) (v := ?_) (a' := ?_) #[true, true, true, true, true, true, true, true, true, true, true, true, true, true, true] rfl rfl (by kernel_rfl) (fun _ _ _ h => h) (Or.inl ⟨by rfl, ?_⟩) ?_ ?_
      rotate_left
      · intro w'
        go_simp
        with_reducible rfl
      rotate_left
      · simp only [Act.put, List.setIfInBounds_toArray, List.set_cons_zero, List.set_cons_succ, i64_w, i32_w]
        rfl
      refine done_ (by kernel_rfl) ?_
      go_wp2
      go_roundg (200 - (i + 1))
      case measure => omega
      case rel => exact ⟨i + 1, _, _, y2, h2, n2, by go_num, by omega, by omega, hok1, by omega, ⟨hok.out.1, s4.out⟩⟩
    · have hout : decide ((i : Int) < (sy.length : Int)) = false ∨ (decide ((i : Int) < (sy.length : Int)) = true ∧ decide ((i : Int) < 200) = false) := by
        by_cases h1 : i < sy.length
        · exact .inr ⟨decide_eq_true (by omega), decide_eq_false (fun h2 => hc1 ⟨h1, by omega⟩)⟩
        · exact .inl (decide_eq_false (by omega))
      have hout' : decide (i < sy.length) = decide ((i : Int) < (sy.length : Int)) := by
        by_cases h1 : i < sy.length
        · rw [decide_eq_true h1, decide_eq_true (by omega)]
        · rw [decide_eq_false h1, decide_eq_false (by omega)]
      have hout2 : decide (i < 200) = decide ((i : Int) < 200) := by
        by_cases h1 : i < 200
        · rw [decide_eq_true h1, decide_eq_true (by omega)]
        · rw [decide_eq_false h1, decide_eq_false (by omega)]
      have hhA := Aside0.mk HR.out.1
      have HS := Aside0.mk HR.out.2
      clear HR hWr
      rcases hout with ho | ⟨ho, ho'⟩
      all_goals
        have k1 := hout'.trans ho
        clear hout'
        try have k2 := hout2.trans ho'
        clear hout2 hc1
        go_wp2_with (first | (go_at_call 31; refine (bw_text HS.out hn hhA.out (by omega)).mono ?_; rintro e w5 ⟨rfl, s5⟩; replace HS := Aside0.mk s5; clear s5) | (go_at_call 32; refine (bv_text HS.out).mono ?_; rintro e w6 ⟨rfl, s6⟩; replace HS := Aside0.mk s6; clear s6) | (go_at_call 36; refine (hAw _).mono ?_; rintro e w7 ⟨rfl, hbel⟩; replace hbel := Aside0.mk hbel))
        go_ret
        have h2 := hbw.out.trans (HS.out.bel.mono hbw.out.size)
        exact ⟨rfl, h2.trans (hbel.out.mono h2.size)⟩
theorem lays_walk (a0 : Option Addr) (len0 cap0 : Nat) (z0 : List Int) (a1 : Option Addr) (len1 cap1 : Nat) (z1 : List Int) (w : World) (w0 : (a0 = none ∧ len0 = 0 ∧ cap0 = 0 ∧ z0 = []) ∨ ∃ x, a0 = some x ∧ len0 ≤ cap0 ∧ cap0 ≤ maxLen ∧ z0.length = cap0 ∧ (∀ i, i < z0.length → w.cell? (x.add i) = some (.int .i64 (z0.getD i 0))) ∧ ∀ n ∈ z0, (Lit.int .i64 n).wf = true) (w1 : (a1 = none ∧ len1 = 0 ∧ cap1 = 0 ∧ z1 = []) ∨ ∃ x, a1 = some x ∧ len1 ≤ cap1 ∧ cap1 ≤ maxLen ∧ z1.length = cap1 ∧ (∀ i, i < z1.length → w.cell? (x.add i) = some (.int .i64 (z1.getD i 0))) ∧ ∀ n ∈ z1, (Lit.int .i64 n).wf = true) (y0 : len0 * 8 ≤ 140737488351232) (y1 : len1 * 8 ≤ 140737488351232) :
    Calls Try.prog 13 #[.slice a0 len0 cap0, .slice a1 len1 cap1] w fun e w' => e = .returned (.bool true) ∧ Below w.heap.size w w' := by
  obtain ⟨l0, rfl, hr0, hm0, hw0, hc0⟩ := ReadsInt.ofRowC w0
  obtain ⟨l1, rfl, hr1, hm1, hw1, hc1⟩ := ReadsInt.ofRowC w1
  have hC := Kd.C_of_reads (d := (0 : Int)) (h1 := fun _ => rfl) hr0
  have hC1 := Kd.C_of_reads (d := (0 : Int)) (h1 := fun _ => rfl) hr1
  by_cases h : checkF l0 = 0
  · exact lays_good w _ _ l0 hC hc0 h _ _ l1 hC1 (by omega)
  · exact lays_bad w _ _ l0 hC (by omega) hc0 h _
end Go.Proofs.Ytpldapjcojjicaa.B
