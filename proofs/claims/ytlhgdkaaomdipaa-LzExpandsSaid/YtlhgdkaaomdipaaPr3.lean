-- printed by a program (see NOTES.md); Lean checks it
import Derived.Test.YtlhgdkaaomdipaaPr0
import Derived.Test.YtlhgdkaaomdipaaPr1
import Derived.Test.YtlhgdkaaomdipaaPr2
import Derived.Test.YtlhgdkaaomdipaaTok
namespace Go.Proofs.Ytlhgdkaaomdipaa.Pr
open Go.RowKit Go.Proofs.YtlhgdkaaomdipaaW.PrintWords Go.Proofs.YtlhgdkaaomdipaaW.PrintLast Go.Proofs.YtlhgdkaaomdipaaW.PrintMore
attribute [local go_sem] max2_int min2_int max_two min_two max_three min_three max_four min_four   -- for this text's walks alone
set_option linter.unusedVariables false
set_option linter.unusedSimpArgs false

attribute [local go_sem high] eqA34
/-! ### lz_Expand: function 11 -/
mutual
def lz_Expand.l0 : Nat → List Int → List (S34) → Int → Int → Option (ByteArray × Int)
  | 0, _, _, _, _ => none
  | k + 1, x4, x7, x8, x9 => if x9 < x8 then (if 0 ≤ x9 then (if x9 < (x7.length : Int) then (if (((rd_T34 x7 x9).f1) == 0 && (((rd_T34 x7 x9).f2) == 0)) = true then (if ((rd_T34 x7 x9).f0) ≥ 0 then (lz_Expand.j1 k x4 x7 x8 x9 (decide (((rd_T34 x7 x9).f0) < 256)) ((rd_T34 x7 x9).f0) ((rd_T34 x7 x9).f1) ((rd_T34 x7 x9).f2)) else (lz_Expand.j1 k x4 x7 x8 x9 false ((rd_T34 x7 x9).f0) ((rd_T34 x7 x9).f1) ((rd_T34 x7 x9).f2))) else (lz_Expand.j1 k x4 x7 x8 x9 false ((rd_T34 x7 x9).f0) ((rd_T34 x7 x9).f1) ((rd_T34 x7 x9).f2))) else (none)) else (none)) else (some (strOfNums x4, 0))
def lz_Expand.j1 : Nat → List Int → List (S34) → Int → Int → Bool → Int → Int → Int → Option (ByteArray × Int)
  | 0, _, _, _, _, _, _, _, _ => none
  | k + 1, x4, x7, x8, x9, x29, x111000, x111001, x111002 => if x29 = true then (if x4.length < 140737488355328 then (lz_Expand.l0 k (x4 ++ [(x111000) % 256]) x7 x8 (wrap64 (x9 + 1))) else (none)) else (if x111000 = 0 then (if x111001 < 3 then (lz_Expand.j2 k x4 x7 x8 x9 true x111000 x111001 x111002) else (if x111001 > 258 then (lz_Expand.j2 k x4 x7 x8 x9 true x111000 x111001 x111002) else (if x111002 < 1 then (lz_Expand.j2 k x4 x7 x8 x9 true x111000 x111001 x111002) else (lz_Expand.j2 k x4 x7 x8 x9 (decide (x111002 > 32768)) x111000 x111001 x111002)))) else (lz_Expand.j2 k x4 x7 x8 x9 true x111000 x111001 x111002))
def lz_Expand.j2 : Nat → List Int → List (S34) → Int → Int → Bool → Int → Int → Int → Option (ByteArray × Int)
  | 0, _, _, _, _, _, _, _, _ => none
  | k + 1, x4, x7, x8, x9, x51, x111000, x111001, x111002 => if x51 = true then (some ((⟨#[]⟩ : ByteArray), 1)) else (if x111002 > (x4.length : Int) then (some ((⟨#[]⟩ : ByteArray), 15)) else (lz_Expand.l1 k x4 x7 x8 x9 x111001 0 x111000 x111001 x111002))
def lz_Expand.l1 : Nat → List Int → List (S34) → Int → Int → Int → Int → Int → Int → Int → Option (ByteArray × Int)
  | 0, _, _, _, _, _, _, _, _, _ => none
  | k + 1, x4, x7, x8, x9, x14, x15, x111000, x111001, x111002 => if x15 < x14 then (if 0 ≤ (wrap64 ((x4.length : Int) - x111002)) then (if (wrap64 ((x4.length : Int) - x111002)) < (x4.length : Int) then (if x4.length < 140737488355328 then (lz_Expand.l1 k (x4 ++ [rd x4 (wrap64 ((x4.length : Int) - x111002))]) x7 x8 x9 x14 (wrap64 (x15 + 1)) x111000 x111001 x111002) else (none)) else (none)) else (none)) else (lz_Expand.l0 k x4 x7 x8 (wrap64 (x9 + 1)))
end
def lz_Expand.f (k : Nat) (l0 : List (S34)) : Option (ByteArray × Int) := lz_Expand.l0 k ([] : List Int) l0 (l0.length : Int) 0
theorem lz_Expand.mono_l : ∀ k, (∀ y0 y1 y2 y3, LeO (lz_Expand.l0 k y0 y1 y2 y3) (lz_Expand.l0 (k + 1) y0 y1 y2 y3)) ∧ (∀ y0 y1 y2 y3 y4 y5 y6 y7, LeO (lz_Expand.j1 k y0 y1 y2 y3 y4 y5 y6 y7) (lz_Expand.j1 (k + 1) y0 y1 y2 y3 y4 y5 y6 y7)) ∧ (∀ y0 y1 y2 y3 y4 y5 y6 y7, LeO (lz_Expand.j2 k y0 y1 y2 y3 y4 y5 y6 y7) (lz_Expand.j2 (k + 1) y0 y1 y2 y3 y4 y5 y6 y7)) ∧ (∀ y0 y1 y2 y3 y4 y5 y6 y7 y8, LeO (lz_Expand.l1 k y0 y1 y2 y3 y4 y5 y6 y7 y8) (lz_Expand.l1 (k + 1) y0 y1 y2 y3 y4 y5 y6 y7 y8))
  | 0 => ⟨fun _ _ _ _ r h => by simp [lz_Expand.l0] at h, fun _ _ _ _ _ _ _ _ r h => by simp [lz_Expand.j1] at h, fun _ _ _ _ _ _ _ _ r h => by simp [lz_Expand.j2] at h, fun _ _ _ _ _ _ _ _ _ r h => by simp [lz_Expand.l1] at h⟩
  | k + 1 => by
    obtain ⟨ih0, ih1, ih2, ih3⟩ := lz_Expand.mono_l k
    refine ⟨?_, ?_, ?_, ?_⟩
    · intro y0 y1 y2 y3
      unfold lz_Expand.l0
      repeat' first
      | (with_reducible exact ih0 _ _ _ _)
      | (with_reducible exact ih1 _ _ _ _ _ _ _ _)
      | (with_reducible exact ih2 _ _ _ _ _ _ _ _)
      | (with_reducible exact ih3 _ _ _ _ _ _ _ _ _)
      | (with_reducible exact LeO.refl _)
      | (with_reducible exact LeO.none _)
      | (with_reducible refine LeO.ite ?_ ?_)
      | (with_reducible refine LeO.bind ?_ (fun _ => ?_))
      | exact ih0 _ _ _ _
      | exact ih1 _ _ _ _ _ _ _ _
      | exact ih2 _ _ _ _ _ _ _ _
      | exact ih3 _ _ _ _ _ _ _ _ _
      | exact LeO.none _
      | refine LeO.ite ?_ ?_
      | refine LeO.bind ?_ (fun _ => ?_)
    · intro y0 y1 y2 y3 y4 y5 y6 y7
      unfold lz_Expand.j1
      repeat' first
      | (with_reducible exact ih0 _ _ _ _)
      | (with_reducible exact ih1 _ _ _ _ _ _ _ _)
      | (with_reducible exact ih2 _ _ _ _ _ _ _ _)
      | (with_reducible exact ih3 _ _ _ _ _ _ _ _ _)
      | (with_reducible exact LeO.refl _)
      | (with_reducible exact LeO.none _)
      | (with_reducible refine LeO.ite ?_ ?_)
      | (with_reducible refine LeO.bind ?_ (fun _ => ?_))
      | exact ih0 _ _ _ _
      | exact ih1 _ _ _ _ _ _ _ _
      | exact ih2 _ _ _ _ _ _ _ _
      | exact ih3 _ _ _ _ _ _ _ _ _
      | exact LeO.none _
      | refine LeO.ite ?_ ?_
      | refine LeO.bind ?_ (fun _ => ?_)
    · intro y0 y1 y2 y3 y4 y5 y6 y7
      unfold lz_Expand.j2
      repeat' first
      | (with_reducible exact ih0 _ _ _ _)
      | (with_reducible exact ih1 _ _ _ _ _ _ _ _)
      | (with_reducible exact ih2 _ _ _ _ _ _ _ _)
      | (with_reducible exact ih3 _ _ _ _ _ _ _ _ _)
      | (with_reducible exact LeO.refl _)
      | (with_reducible exact LeO.none _)
      | (with_reducible refine LeO.ite ?_ ?_)
      | (with_reducible refine LeO.bind ?_ (fun _ => ?_))
      | exact ih0 _ _ _ _
      | exact ih1 _ _ _ _ _ _ _ _
      | exact ih2 _ _ _ _ _ _ _ _
      | exact ih3 _ _ _ _ _ _ _ _ _
      | exact LeO.none _
      | refine LeO.ite ?_ ?_
      | refine LeO.bind ?_ (fun _ => ?_)
    · intro y0 y1 y2 y3 y4 y5 y6 y7 y8
      unfold lz_Expand.l1
      repeat' first
      | (with_reducible exact ih0 _ _ _ _)
      | (with_reducible exact ih1 _ _ _ _ _ _ _ _)
      | (with_reducible exact ih2 _ _ _ _ _ _ _ _)
      | (with_reducible exact ih3 _ _ _ _ _ _ _ _ _)
      | (with_reducible exact LeO.refl _)
      | (with_reducible exact LeO.none _)
      | (with_reducible refine LeO.ite ?_ ?_)
      | (with_reducible refine LeO.bind ?_ (fun _ => ?_))
      | exact ih0 _ _ _ _
      | exact ih1 _ _ _ _ _ _ _ _
      | exact ih2 _ _ _ _ _ _ _ _
      | exact ih3 _ _ _ _ _ _ _ _ _
      | exact LeO.none _
      | refine LeO.ite ?_ ?_
      | refine LeO.bind ?_ (fun _ => ?_)
theorem lz_Expand.mono : ∀ a0 k, LeO (lz_Expand.f k a0) (lz_Expand.f (k + 1) a0) := by
  intro a0 k
  obtain ⟨ih0, ih1, ih2, ih3⟩ := lz_Expand.mono_l k
  unfold lz_Expand.f
  repeat' first
      | (with_reducible exact ih0 _ _ _ _)
      | (with_reducible exact ih1 _ _ _ _ _ _ _ _)
      | (with_reducible exact ih2 _ _ _ _ _ _ _ _)
      | (with_reducible exact ih3 _ _ _ _ _ _ _ _ _)
      | (with_reducible exact LeO.refl _)
      | (with_reducible exact LeO.none _)
      | (with_reducible refine LeO.ite ?_ ?_)
      | (with_reducible refine LeO.bind ?_ (fun _ => ?_))
      | exact ih0 _ _ _ _
      | exact ih1 _ _ _ _ _ _ _ _
      | exact ih2 _ _ _ _ _ _ _ _
      | exact ih3 _ _ _ _ _ _ _ _ _
      | exact LeO.none _
      | refine LeO.ite ?_ ?_
      | refine LeO.bind ?_ (fun _ => ?_)
set_option maxHeartbeats 8000000 in
set_option maxRecDepth 100000 in
theorem lz_Expand.calls (k : Nat) (A0 : Option Addr) (c0 : Nat) (l0 : List (S34)) (r1 : ByteArray) (r2 : Int) (w : World) (hr0 : Kd.C k34 w A0 l0.length l0) (hc0 : l0.length ≤ c0) (h : lz_Expand.f k l0 = some (r1, r2)) :
    Calls Try.prog 11 #[.slice A0 l0.length c0] w fun e w' => e = .returned (.tuple #[.string r1, .int .i64 r2]) ∧ Below w.heap.size w w' := by
  have hu34 := Try.underlying34
  have HR0 := Aside0.mk hr0
  have HC0 := Aside0.mk hc0
  clear hr0 hc0
  have HB := Aside0.mk (Below.refl w.heap.size w)
  have H : (lz_Expand.l0 k ([] : List Int) l0 (l0.length : Int) 0) = some (r1, r2) := h
  clear h
  have H' := Aside0.mk H
  clear H
  go_enter Try.func11, Try.ntmps11
  go_wp2
  go_loopg [4, 9] k (fun kq v4 v9 w' => ∃ (x4_1 : List Int) (x9_1 : Int), v9 = .int .i64 x9_1 ∧ Aside0 (lz_Expand.l0 kq x4_1 l0 (l0.length : Int) x9_1 = some (r1, r2)) ∧ Aside0 (kq ≤ k) ∧ Aside0 (Kd.R (Kd.int .u8) 5 w' w.heap.size (fun _ => True) v4 x4_1) ∧ Aside0 (Below w.heap.size w w'))
  case atStart => exact ⟨(([] : List Int)), (0), (by first | rfl | (simp; done) | (simp [*]; done)), H', ⟨Nat.le_refl _⟩, ⟨by first | exact Kd.R_nil _ _ _ _ _ | exact Kd.N_nil _ _ _ _ _ | exact Kd.V_nil _ _ _ _ _ | exact Kd.Q_nil _ _ _ _ _ | exact Kd.S_nil _ _ _ _ _⟩, ⟨by repeat (first | (with_reducible first | exact HB.out | apply below_alloc | apply pw_below_drewN | apply below_drew1) | exact HB.out)⟩⟩
  case round =>
    clear H'
    try clear c1
    obtain ⟨x4_1, x9_1, rfl, HA, HK1, HO_4, HB⟩ := hrel
    cases gk with
    | zero => exact absurd HA.out (by simp [lz_Expand.l0])
    | succ k1 =>
      have H := HA.out
      clear HA
      simp only [lz_Expand.l0] at H
      by_cases c2 : x9_1 < (l0.length : Int)
      · rw [if_pos c2] at H
        have c2b0 : decide (x9_1 < (l0.length : Int)) = true := decide_eq_true c2
        clear c2
        by_cases c3 : 0 ≤ x9_1
        · rw [if_pos c3] at H
          have c3b0 : decide (0 ≤ x9_1) = true := decide_eq_true c3
          clear c3
          by_cases c4 : x9_1 < (l0.length : Int)
          · rw [if_pos c4] at H
            have c4b0 : decide (x9_1 < (l0.length : Int)) = true := decide_eq_true c4
            clear c4
            have HC5 := Aside0.mk H
            clear H
            have p109 : 0 ≤ (x9_1 : Int) := of_decide_eq_true (by first | (with_reducible assumption) | assumption)
            have q109 : x9_1 < (l0.length : Int) := of_decide_eq_true (by first | (with_reducible assumption) | assumption)
            obtain ⟨ad109, e109, hx109_0, hx109_1, hx109_2⟩ := at_T34 HR0.out x9_1 p109 q109
            cases e109
            replace hx109_0 := (HB.out.cell (World.block_lt_of_cell? w _ hx109_0)).trans hx109_0
            replace hx109_1 := (HB.out.cell (World.block_lt_of_cell? w _ hx109_1)).trans hx109_1
            replace hx109_2 := (HB.out.cell (World.block_lt_of_cell? w _ hx109_2)).trans hx109_2
            replace p109 := eq_true p109
            replace q109 := eq_true q109
            go_upto_region 9 with (first | ((with_reducible refine gate_dst (N := 6) rfl ?_); refine box_event ?hg (N := 6) ?hd (cs := #[.int .i64 0, .int .i64 0, .int .i64 0]) (t := 34) ?hr ?_; (case hd => rfl); (case hg => rfl); (case hr => first | (go_simp; done) | (go_simp; rfl)); intro gb110 hg w6 hbox hb; have n0_ := Aside0.mk (Kd.R_below (by (with_reducible repeat (first | apply Kd.R_alloc | apply Kd.R_drewN | apply Kd.R_drew)); exact HO_4.out) hb); have n1_ := Aside0.mk (below_step (by repeat (first | (with_reducible first | exact HB.out | apply below_alloc | apply pw_below_drewN | apply below_drew1) | exact HB.out)) hb); have n2_ := Aside0.mk (hbox); have n3_ := Aside0.mk ((by rw [hg]; exact (below_size (by repeat (first | (with_reducible first | exact HB.out | apply below_alloc | apply pw_below_drewN | apply below_drew1) | exact HB.out))) : w.heap.size ≤ gb110)); have n4_ := Aside0.mk ((by rw [hg]; exact (below_size (by repeat (first | (with_reducible first | exact HB.out | apply below_alloc | apply pw_below_drewN | apply below_drew1) | exact HB.out))) : w.heap.size ≤ gb110)); clear HO_4; clear HB; have HO_4 := n0_; have HB := n1_; have BK110 := n2_; have GW110 := n3_; have GE110 := n4_; clear n0_ n1_ n2_ n3_ n4_; clear hb hbox hg; have hcz7_0 : w6.cell? ⟨gb110, 0, none⟩ = some (.int .i64 0) := (blk_cell BK110.out 0).trans rfl; have hcz7_1 : w6.cell? ⟨gb110, 1, none⟩ = some (.int .i64 0) := (blk_cell BK110.out 1).trans rfl; have hcz7_2 : w6.cell? ⟨gb110, 2, none⟩ = some (.int .i64 0) := (blk_cell BK110.out 2).trans rfl; have hfz7_0 := blk_frozen BK110.out 0; have hfz7_1 := blk_frozen BK110.out 1; have hfz7_2 := blk_frozen BK110.out 2))
            (try simp only [Act.put, List.setIfInBounds_toArray, List.set_cons_zero, List.set_cons_succ])
            go_cut [29] (fun v29 wc => ∃ (kq : Nat) (x29_4 : Bool), v29 = .bool x29_4 ∧ Aside0 (lz_Expand.j1 kq x4_1 l0 (l0.length : Int) x9_1 x29_4 ((rd_T34 l0 x9_1).f0) ((rd_T34 l0 x9_1).f1) ((rd_T34 l0 x9_1).f2) = some (r1, r2)) ∧ Aside0 (kq ≤ k1) ∧ Aside0 (Kd.R (Kd.int .u8) 5 wc w.heap.size (fun _ => True) u4 x4_1) ∧ Aside0 (wc.heap[gb110]? = some (.cells #[.int .i64 ((rd_T34 l0 x9_1).f0), .int .i64 ((rd_T34 l0 x9_1).f1), .int .i64 ((rd_T34 l0 x9_1).f2)] 34 (0, 0))) ∧ Aside0 (Below w.heap.size w wc))
            case first =>
              have H := HC5.out
              clear HC5
              by_cases c8 : (((rd_T34 l0 x9_1).f1) == 0 && (((rd_T34 l0 x9_1).f2) == 0)) = true
              · rw [if_pos c8] at H
                have c8b0 : (((rd_T34 l0 x9_1).f1) == 0 && (((rd_T34 l0 x9_1).f2) == 0)) = true := c8
                (try (have c8b1 : decide (((rd_T34 l0 x9_1).f1) = 0 && (((rd_T34 l0 x9_1).f2) == 0)) = true := by simpa using c8))
                (try (have c8b2 : (((rd_T34 l0 x9_1).f1) == 0 && (((rd_T34 l0 x9_1).f2) == 0)) = true := by simpa using c8))
                clear c8
                (first | rw [c8b0] | (simp only [i64_w, i32_w]; rw [c8b0]) | skip)
                by_cases c9 : ((rd_T34 l0 x9_1).f0) ≥ 0
                · rw [if_pos c9] at H
                  have c9b0 : decide (0 ≤ ((rd_T34 l0 x9_1).f0)) = true := decide_eq_true c9
                  clear c9
                  have H' := Aside0.mk H
                  clear H
                  have hcz10_0 : w6.cell? ⟨gb110, 0, none⟩ = some (.int .i64 0) := (blk_cell BK110.out 0).trans rfl
                  have hcz10_1 : w6.cell? ⟨gb110, 1, none⟩ = some (.int .i64 0) := (blk_cell BK110.out 1).trans rfl
                  have hcz10_2 : w6.cell? ⟨gb110, 2, none⟩ = some (.int .i64 0) := (blk_cell BK110.out 2).trans rfl
                  have hfz10_0 := blk_frozen BK110.out 0
                  have hfz10_1 := blk_frozen BK110.out 1
                  have hfz10_2 := blk_frozen BK110.out 2
                  go_wp2
                  go_meet
                  case rel => exact ⟨_, (decide (((rd_T34 l0 x9_1).f0) < 256)), (by first | rfl | (simp; done) | (simp [*]; done)), H', ⟨by have := HK1.out; first | omega | exact Nat.le_refl _⟩, ⟨by (with_reducible repeat (first | apply Kd.R_alloc | apply Kd.R_drewN | apply Kd.R_drew)); exact Kd.R_mono (Kd.R_far (p := ⟨gb110, 2, none⟩) (Kd.R_far (p := ⟨gb110, 1, none⟩) (Kd.R_far (p := ⟨gb110, 0, none⟩) (Kd.R_types HO_4.out BK110.out (by decide)) (fun _ hk => hk.2) (.int .i64 ((rd_T34 l0 x9_1).f0))) (fun _ hk => hk.2) (.int .i64 ((rd_T34 l0 x9_1).f1))) (fun _ hk => hk.2) (.int .i64 ((rd_T34 l0 x9_1).f2))) (fun _ hk => trivial)⟩, ⟨by (with_reducible repeat (first | refine blk_drewN ?_ _ | refine blk_drew ?_ | refine blk_alloc ?_ _)); refine blk_put (cs := #[.int .i64 ((rd_T34 l0 x9_1).f0), .int .i64 ((rd_T34 l0 x9_1).f1), .int .i64 0]) ?_ 2 _ rfl; (with_reducible repeat (first | refine blk_drewN ?_ _ | refine blk_drew ?_ | refine blk_alloc ?_ _)); refine blk_put (cs := #[.int .i64 ((rd_T34 l0 x9_1).f0), .int .i64 0, .int .i64 0]) ?_ 1 _ rfl; (with_reducible repeat (first | refine blk_drewN ?_ _ | refine blk_drew ?_ | refine blk_alloc ?_ _)); refine blk_put (cs := #[.int .i64 0, .int .i64 0, .int .i64 0]) ?_ 0 _ rfl; (with_reducible repeat (first | refine blk_drewN ?_ _ | refine blk_drew ?_ | refine blk_alloc ?_ _)); exact BK110.out⟩, ⟨by repeat (first | (with_reducible first | exact HB.out | apply below_alloc | apply pw_below_drewN | apply below_drew1 | refine below_set ?_ GE110.out) | exact HB.out)⟩⟩
                · rw [if_neg c9] at H
                  have c9b0 : decide (0 ≤ ((rd_T34 l0 x9_1).f0)) = false := decide_eq_false c9
                  clear c9
                  have H' := Aside0.mk H
                  clear H
                  have hcz11_0 : w6.cell? ⟨gb110, 0, none⟩ = some (.int .i64 0) := (blk_cell BK110.out 0).trans rfl
                  have hcz11_1 : w6.cell? ⟨gb110, 1, none⟩ = some (.int .i64 0) := (blk_cell BK110.out 1).trans rfl
                  have hcz11_2 : w6.cell? ⟨gb110, 2, none⟩ = some (.int .i64 0) := (blk_cell BK110.out 2).trans rfl
                  have hfz11_0 := blk_frozen BK110.out 0
                  have hfz11_1 := blk_frozen BK110.out 1
                  have hfz11_2 := blk_frozen BK110.out 2
                  go_wp2
                  go_meet
                  case rel => exact ⟨_, (false), (by first | rfl | (simp; done) | (simp [*]; done)), H', ⟨by have := HK1.out; first | omega | exact Nat.le_refl _⟩, ⟨by (with_reducible repeat (first | apply Kd.R_alloc | apply Kd.R_drewN | apply Kd.R_drew)); exact Kd.R_mono (Kd.R_far (p := ⟨gb110, 2, none⟩) (Kd.R_far (p := ⟨gb110, 1, none⟩) (Kd.R_far (p := ⟨gb110, 0, none⟩) (Kd.R_types HO_4.out BK110.out (by decide)) (fun _ hk => hk.2) (.int .i64 ((rd_T34 l0 x9_1).f0))) (fun _ hk => hk.2) (.int .i64 ((rd_T34 l0 x9_1).f1))) (fun _ hk => hk.2) (.int .i64 ((rd_T34 l0 x9_1).f2))) (fun _ hk => trivial)⟩, ⟨by (with_reducible repeat (first | refine blk_drewN ?_ _ | refine blk_drew ?_ | refine blk_alloc ?_ _)); refine blk_put (cs := #[.int .i64 ((rd_T34 l0 x9_1).f0), .int .i64 ((rd_T34 l0 x9_1).f1), .int .i64 0]) ?_ 2 _ rfl; (with_reducible repeat (first | refine blk_drewN ?_ _ | refine blk_drew ?_ | refine blk_alloc ?_ _)); refine blk_put (cs := #[.int .i64 ((rd_T34 l0 x9_1).f0), .int .i64 0, .int .i64 0]) ?_ 1 _ rfl; (with_reducible repeat (first | refine blk_drewN ?_ _ | refine blk_drew ?_ | refine blk_alloc ?_ _)); refine blk_put (cs := #[.int .i64 0, .int .i64 0, .int .i64 0]) ?_ 0 _ rfl; (with_reducible repeat (first | refine blk_drewN ?_ _ | refine blk_drew ?_ | refine blk_alloc ?_ _)); exact BK110.out⟩, ⟨by repeat (first | (with_reducible first | exact HB.out | apply below_alloc | apply pw_below_drewN | apply below_drew1 | refine below_set ?_ GE110.out) | exact HB.out)⟩⟩
              · rw [if_neg c8] at H
                have c8b0 : (((rd_T34 l0 x9_1).f1) == 0 && (((rd_T34 l0 x9_1).f2) == 0)) = false := by simpa using c8
                (try (have c8b1 : decide (((rd_T34 l0 x9_1).f1) = 0 && (((rd_T34 l0 x9_1).f2) == 0)) = false := by simpa using c8))
                (try (have c8b2 : (((rd_T34 l0 x9_1).f1) == 0 && (((rd_T34 l0 x9_1).f2) == 0)) = false := by simpa using c8))
                (try (have c8b3 : ¬ (((rd_T34 l0 x9_1).f1) = 0 && (((rd_T34 l0 x9_1).f2) == 0)) := by simpa using c8))
                clear c8
                (first | rw [c8b0] | (simp only [i64_w, i32_w]; rw [c8b0]) | skip)
                have H' := Aside0.mk H
                clear H
                have hcz12_0 : w6.cell? ⟨gb110, 0, none⟩ = some (.int .i64 0) := (blk_cell BK110.out 0).trans rfl
                have hcz12_1 : w6.cell? ⟨gb110, 1, none⟩ = some (.int .i64 0) := (blk_cell BK110.out 1).trans rfl
                have hcz12_2 : w6.cell? ⟨gb110, 2, none⟩ = some (.int .i64 0) := (blk_cell BK110.out 2).trans rfl
                have hfz12_0 := blk_frozen BK110.out 0
                have hfz12_1 := blk_frozen BK110.out 1
                have hfz12_2 := blk_frozen BK110.out 2
                go_wp2
                go_meet
                case rel => exact ⟨_, (false), (by first | rfl | (simp; done) | (simp [*]; done)), H', ⟨by have := HK1.out; first | omega | exact Nat.le_refl _⟩, ⟨by (with_reducible repeat (first | apply Kd.R_alloc | apply Kd.R_drewN | apply Kd.R_drew)); exact Kd.R_mono (Kd.R_far (p := ⟨gb110, 2, none⟩) (Kd.R_far (p := ⟨gb110, 1, none⟩) (Kd.R_far (p := ⟨gb110, 0, none⟩) (Kd.R_types HO_4.out BK110.out (by decide)) (fun _ hk => hk.2) (.int .i64 ((rd_T34 l0 x9_1).f0))) (fun _ hk => hk.2) (.int .i64 ((rd_T34 l0 x9_1).f1))) (fun _ hk => hk.2) (.int .i64 ((rd_T34 l0 x9_1).f2))) (fun _ hk => trivial)⟩, ⟨by (with_reducible repeat (first | refine blk_drewN ?_ _ | refine blk_drew ?_ | refine blk_alloc ?_ _)); refine blk_put (cs := #[.int .i64 ((rd_T34 l0 x9_1).f0), .int .i64 ((rd_T34 l0 x9_1).f1), .int .i64 0]) ?_ 2 _ rfl; (with_reducible repeat (first | refine blk_drewN ?_ _ | refine blk_drew ?_ | refine blk_alloc ?_ _)); refine blk_put (cs := #[.int .i64 ((rd_T34 l0 x9_1).f0), .int .i64 0, .int .i64 0]) ?_ 1 _ rfl; (with_reducible repeat (first | refine blk_drewN ?_ _ | refine blk_drew ?_ | refine blk_alloc ?_ _)); refine blk_put (cs := #[.int .i64 0, .int .i64 0, .int .i64 0]) ?_ 0 _ rfl; (with_reducible repeat (first | refine blk_drewN ?_ _ | refine blk_drew ?_ | refine blk_alloc ?_ _)); exact BK110.out⟩, ⟨by repeat (first | (with_reducible first | exact HB.out | apply below_alloc | apply pw_below_drewN | apply below_drew1 | refine below_set ?_ GE110.out) | exact HB.out)⟩⟩
            case rest =>
              clear HC5
              try clear c1
              try clear p1
              try clear q1
              try clear hx1
              try clear c2
              try clear c2b0
              try clear p2
              try clear c3
              try clear c3b0
              try clear c4
              try clear c4b0
              try clear c8
              try clear c8b0
              try clear c8b1
              try clear c8b2
              try clear c9
              try clear c9b0
              try clear p10
              try clear q10
              try clear hx10
              try clear c11
              try clear hcz10_0
              try clear hcz10_1
              try clear hcz10_2
              try clear hcz11_0
              try clear hcz11_1
              try clear hcz11_2
              try clear hcz12_0
              try clear hcz12_1
              try clear hcz12_2
              try clear hcz7_0
              try clear hcz7_1
              try clear hcz7_2
              try clear hfz10_0
              try clear hfz10_1
              try clear hfz10_2
              try clear hfz11_0
              try clear hfz11_1
              try clear hfz11_2
              try clear hfz12_0
              try clear hfz12_1
              try clear hfz12_2
              try clear hfz7_0
              try clear hfz7_1
              try clear hfz7_2
              try clear hx109_0
              try clear hx109_1
              try clear hx109_2
              try clear p109
              try clear q109
              obtain ⟨kq, x29_4, rfl, HA, HJ4, HO_4, BK110, HB⟩ := hcut
              cases kq with
              | zero => exact absurd HA.out (by simp [lz_Expand.j1])
              | succ kj4 =>
                have H := HA.out
                clear HA
                simp only [lz_Expand.j1] at H
                by_cases c13 : x29_4 = true
                · subst c13
                  have H1 : (if x4_1.length < 140737488355328 then (lz_Expand.l0 kj4 (x4_1 ++ [(((rd_T34 l0 x9_1).f0)) % 256]) l0 (l0.length : Int) (wrap64 (x9_1 + 1))) else (none)) = some (r1, r2) := by rw [if_pos rfl] at H; exact H
                  clear H
                  have H := H1
                  clear H1
                  by_cases c14 : x4_1.length < 140737488355328
                  · rw [if_pos c14] at H
                    have LMc14 := Aside0.mk c14
                    clear c14
                    obtain ⟨y111, hy111⟩ : ∃ y_ : List Int, y_ = (x4_1 ++ [(((rd_T34 l0 x9_1).f0)) % 256]) := ⟨_, rfl⟩
                    replace H : (lz_Expand.l0 kj4 y111 l0 (l0.length : Int) (wrap64 (x9_1 + 1))) = some (r1, r2) := by first | (rw [hy111]; with_reducible exact H) | (have H2_ := (Option.bind_some _ _).symm.trans H; rw [hy111]; with_reducible exact H2_) | (have H2_ := (Option.bind_some _ _).symm.trans H; with_reducible exact H2_) | with_reducible exact H | (rw [hy111]; exact H) | exact H
                    have Ny111 := Aside0.mk hy111
                    clear hy111
                    have H' := Aside0.mk H
                    clear H
                    have hcz15_0 : wc.cell? ⟨gb110, 0, none⟩ = some (.int .i64 ((rd_T34 l0 x9_1).f0)) := (blk_cell BK110.out 0).trans rfl
                    have hcz15_1 : wc.cell? ⟨gb110, 1, none⟩ = some (.int .i64 ((rd_T34 l0 x9_1).f1)) := (blk_cell BK110.out 1).trans rfl
                    have hcz15_2 : wc.cell? ⟨gb110, 2, none⟩ = some (.int .i64 ((rd_T34 l0 x9_1).f2)) := (blk_cell BK110.out 2).trans rfl
                    have hfz15_0 := blk_frozen BK110.out 0
                    have hfz15_1 := blk_frozen BK110.out 1
                    have hfz15_2 := blk_frozen BK110.out 2
                    go_wp2_with (first | ((with_reducible refine gate_builtin (b := .append) (xs := #[.tmp 45, .tmp 49]) rfl ?_); at_builtin; refine Kd.R_append (Kd.int .u8) (w0 := w) w.heap.size rfl (.tmp 45) (.tmp 49) 39 5 (.int .u8 0) 1 rfl Try.underlying39 info5 rfl (by decide) (by omega) u4 x4_1 ((((rd_T34 l0 x9_1).f0)) % 256) [.int .u8 ((((rd_T34 l0 x9_1).f0)) % 256)] (fun _ => True) (fun _ => False) rfl rfl ?aP (fun _ hk => hk.elim) ?aF ?aO ?aB ?aS ?aL ?_; (case aP => exact rfl); (case aB => exact (by repeat (first | (with_reducible first | exact HB.out | apply below_alloc | apply pw_below_drewN | apply below_drew1 | refine below_set ?_ GE110.out) | exact HB.out))); (case aF => exact (fun _ _ => trivial)); (case aO => exact (by (with_reducible repeat (first | apply Kd.R_alloc | apply Kd.R_drewN | apply Kd.R_drew)); exact HO_4.out)); (case aS => exact (below_size (by repeat (first | (with_reducible first | exact HB.out | apply below_alloc | apply pw_below_drewN | apply below_drew1 | refine below_set ?_ GE110.out) | exact HB.out)))); (case aL => have := LMc14.out; omega); intro v112 w16 ho hb hg hat; rw [← Ny111.out] at ho; have n0_ := Aside0.mk (blk_grown (g := gb110) (o := .cells #[.int .i64 ((rd_T34 l0 x9_1).f0), .int .i64 ((rd_T34 l0 x9_1).f1), .int .i64 ((rd_T34 l0 x9_1).f2)] 34 (0, 0)) (by (with_reducible repeat (first | refine blk_drewN ?_ _ | refine blk_drew ?_ | refine blk_alloc ?_ _)); exact BK110.out) hg (Kd.R_ne HO_4.out BK110.out (by decide))); have n1_ := Aside0.mk (hb); have n2_ := Aside0.mk (ho); clear BK110; clear HB; clear HO_4; have BK110 := n0_; have HB := n1_; have HO113 := n2_; clear n0_ n1_ n2_; clear ho hb hg hat))
                    go_roundg kj4
                    case measure => have := HK1.out; have := HJ4.out; omega
                    case rel => exact ⟨(y111), (wrap64 (x9_1 + 1)), (by first | rfl | (simp; done) | (simp [*]; done)), H', ⟨by have := HK1.out; have := HJ4.out; omega⟩, ⟨by (with_reducible repeat (first | apply Kd.R_alloc | apply Kd.R_drewN | apply Kd.R_drew)); exact HO113.out⟩, ⟨by repeat (first | (with_reducible first | exact HB.out | apply below_alloc | apply pw_below_drewN | apply below_drew1 | refine below_set ?_ GE110.out) | exact HB.out)⟩⟩
                  · rw [if_neg c14] at H
                    exact absurd H (by simp)
                · replace c13 := Bool.eq_false_iff.mpr c13
                  subst c13
                  have H1 : (if ((rd_T34 l0 x9_1).f0) = 0 then (if ((rd_T34 l0 x9_1).f1) < 3 then (lz_Expand.j2 kj4 x4_1 l0 (l0.length : Int) x9_1 true ((rd_T34 l0 x9_1).f0) ((rd_T34 l0 x9_1).f1) ((rd_T34 l0 x9_1).f2)) else (if ((rd_T34 l0 x9_1).f1) > 258 then (lz_Expand.j2 kj4 x4_1 l0 (l0.length : Int) x9_1 true ((rd_T34 l0 x9_1).f0) ((rd_T34 l0 x9_1).f1) ((rd_T34 l0 x9_1).f2)) else (if ((rd_T34 l0 x9_1).f2) < 1 then (lz_Expand.j2 kj4 x4_1 l0 (l0.length : Int) x9_1 true ((rd_T34 l0 x9_1).f0) ((rd_T34 l0 x9_1).f1) ((rd_T34 l0 x9_1).f2)) else (lz_Expand.j2 kj4 x4_1 l0 (l0.length : Int) x9_1 (decide (((rd_T34 l0 x9_1).f2) > 32768)) ((rd_T34 l0 x9_1).f0) ((rd_T34 l0 x9_1).f1) ((rd_T34 l0 x9_1).f2))))) else (lz_Expand.j2 kj4 x4_1 l0 (l0.length : Int) x9_1 true ((rd_T34 l0 x9_1).f0) ((rd_T34 l0 x9_1).f1) ((rd_T34 l0 x9_1).f2))) = some (r1, r2) := by rw [if_neg (show ¬ (false = true) by decide)] at H; exact H
                  clear H
                  have H := H1
                  clear H1
                  have HC17 := Aside0.mk H
                  clear H
                  go_upto_region 11 with (fail)
                  go_cut [51] (fun v51 wc => ∃ (kq : Nat) (x51_16 : Bool), v51 = .bool x51_16 ∧ Aside0 (lz_Expand.j2 kq x4_1 l0 (l0.length : Int) x9_1 x51_16 ((rd_T34 l0 x9_1).f0) ((rd_T34 l0 x9_1).f1) ((rd_T34 l0 x9_1).f2) = some (r1, r2)) ∧ Aside0 (kq ≤ kj4) ∧ Aside0 (Kd.R (Kd.int .u8) 5 wc w.heap.size (fun _ => True) u4 x4_1) ∧ Aside0 (wc.heap[gb110]? = some (.cells #[.int .i64 ((rd_T34 l0 x9_1).f0), .int .i64 ((rd_T34 l0 x9_1).f1), .int .i64 ((rd_T34 l0 x9_1).f2)] 34 (0, 0))) ∧ Aside0 (Below w.heap.size w wc))
                  case first =>
                    have H := HC17.out
                    clear HC17
                    by_cases c18 : ((rd_T34 l0 x9_1).f0) = 0
                    · rw [if_pos c18] at H
                      have c18b0 : (((rd_T34 l0 x9_1).f0) == 0) = true := beq_iff_eq.mpr c18
                      have c18b1 : (((rd_T34 l0 x9_1).f0) != 0) = false := bne_eq_false_iff_eq.mpr c18
                      clear c18
                      (first | rw [c18b0] | (simp only [i64_w, i32_w]; rw [c18b0]) | skip)
                      by_cases c19 : ((rd_T34 l0 x9_1).f1) < 3
                      · rw [if_pos c19] at H
                        have c19b0 : decide (((rd_T34 l0 x9_1).f1) < 3) = true := decide_eq_true c19
                        clear c19
                        have H' := Aside0.mk H
                        clear H
                        have hcz20_0 : wc.cell? ⟨gb110, 0, none⟩ = some (.int .i64 ((rd_T34 l0 x9_1).f0)) := (blk_cell BK110.out 0).trans rfl
                        have hcz20_1 : wc.cell? ⟨gb110, 1, none⟩ = some (.int .i64 ((rd_T34 l0 x9_1).f1)) := (blk_cell BK110.out 1).trans rfl
                        have hcz20_2 : wc.cell? ⟨gb110, 2, none⟩ = some (.int .i64 ((rd_T34 l0 x9_1).f2)) := (blk_cell BK110.out 2).trans rfl
                        have hfz20_0 := blk_frozen BK110.out 0
                        have hfz20_1 := blk_frozen BK110.out 1
                        have hfz20_2 := blk_frozen BK110.out 2
                        go_wp2
                        go_meet
                        case rel => exact ⟨_, (true), (by first | rfl | (simp; done) | (simp [*]; done)), H', ⟨by have := HK1.out; have := HJ4.out; first | omega | exact Nat.le_refl _⟩, ⟨by (with_reducible repeat (first | apply Kd.R_alloc | apply Kd.R_drewN | apply Kd.R_drew)); exact HO_4.out⟩, ⟨by (with_reducible repeat (first | refine blk_drewN ?_ _ | refine blk_drew ?_ | refine blk_alloc ?_ _)); exact BK110.out⟩, ⟨by repeat (first | (with_reducible first | exact HB.out | apply below_alloc | apply pw_below_drewN | apply below_drew1 | refine below_set ?_ GE110.out) | exact HB.out)⟩⟩
                      · rw [if_neg c19] at H
                        have c19b0 : decide (((rd_T34 l0 x9_1).f1) < 3) = false := decide_eq_false c19
                        clear c19
                        by_cases c21 : ((rd_T34 l0 x9_1).f1) > 258
                        · rw [if_pos c21] at H
                          have c21b0 : decide (258 < ((rd_T34 l0 x9_1).f1)) = true := decide_eq_true c21
                          clear c21
                          have H' := Aside0.mk H
                          clear H
                          have hcz22_0 : wc.cell? ⟨gb110, 0, none⟩ = some (.int .i64 ((rd_T34 l0 x9_1).f0)) := (blk_cell BK110.out 0).trans rfl
                          have hcz22_1 : wc.cell? ⟨gb110, 1, none⟩ = some (.int .i64 ((rd_T34 l0 x9_1).f1)) := (blk_cell BK110.out 1).trans rfl
                          have hcz22_2 : wc.cell? ⟨gb110, 2, none⟩ = some (.int .i64 ((rd_T34 l0 x9_1).f2)) := (blk_cell BK110.out 2).trans rfl
                          have hfz22_0 := blk_frozen BK110.out 0
                          have hfz22_1 := blk_frozen BK110.out 1
                          have hfz22_2 := blk_frozen BK110.out 2
                          go_wp2
                          go_meet
                          case rel => exact ⟨_, (true), (by first | rfl | (simp; done) | (simp [*]; done)), H', ⟨by have := HK1.out; have := HJ4.out; first | omega | exact Nat.le_refl _⟩, ⟨by (with_reducible repeat (first | apply Kd.R_alloc | apply Kd.R_drewN | apply Kd.R_drew)); exact HO_4.out⟩, ⟨by (with_reducible repeat (first | refine blk_drewN ?_ _ | refine blk_drew ?_ | refine blk_alloc ?_ _)); exact BK110.out⟩, ⟨by repeat (first | (with_reducible first | exact HB.out | apply below_alloc | apply pw_below_drewN | apply below_drew1 | refine below_set ?_ GE110.out) | exact HB.out)⟩⟩
                        · rw [if_neg c21] at H
                          have c21b0 : decide (258 < ((rd_T34 l0 x9_1).f1)) = false := decide_eq_false c21
                          clear c21
                          by_cases c23 : ((rd_T34 l0 x9_1).f2) < 1
                          · rw [if_pos c23] at H
                            have c23b0 : decide (((rd_T34 l0 x9_1).f2) < 1) = true := decide_eq_true c23
                            clear c23
                            have H' := Aside0.mk H
                            clear H
                            have hcz24_0 : wc.cell? ⟨gb110, 0, none⟩ = some (.int .i64 ((rd_T34 l0 x9_1).f0)) := (blk_cell BK110.out 0).trans rfl
                            have hcz24_1 : wc.cell? ⟨gb110, 1, none⟩ = some (.int .i64 ((rd_T34 l0 x9_1).f1)) := (blk_cell BK110.out 1).trans rfl
                            have hcz24_2 : wc.cell? ⟨gb110, 2, none⟩ = some (.int .i64 ((rd_T34 l0 x9_1).f2)) := (blk_cell BK110.out 2).trans rfl
                            have hfz24_0 := blk_frozen BK110.out 0
                            have hfz24_1 := blk_frozen BK110.out 1
                            have hfz24_2 := blk_frozen BK110.out 2
                            go_wp2
                            go_meet
                            case rel => exact ⟨_, (true), (by first | rfl | (simp; done) | (simp [*]; done)), H', ⟨by have := HK1.out; have := HJ4.out; first | omega | exact Nat.le_refl _⟩, ⟨by (with_reducible repeat (first | apply Kd.R_alloc | apply Kd.R_drewN | apply Kd.R_drew)); exact HO_4.out⟩, ⟨by (with_reducible repeat (first | refine blk_drewN ?_ _ | refine blk_drew ?_ | refine blk_alloc ?_ _)); exact BK110.out⟩, ⟨by repeat (first | (with_reducible first | exact HB.out | apply below_alloc | apply pw_below_drewN | apply below_drew1 | refine below_set ?_ GE110.out) | exact HB.out)⟩⟩
                          · rw [if_neg c23] at H
                            have c23b0 : decide (((rd_T34 l0 x9_1).f2) < 1) = false := decide_eq_false c23
                            clear c23
                            have H' := Aside0.mk H
                            clear H
                            have hcz25_0 : wc.cell? ⟨gb110, 0, none⟩ = some (.int .i64 ((rd_T34 l0 x9_1).f0)) := (blk_cell BK110.out 0).trans rfl
                            have hcz25_1 : wc.cell? ⟨gb110, 1, none⟩ = some (.int .i64 ((rd_T34 l0 x9_1).f1)) := (blk_cell BK110.out 1).trans rfl
                            have hcz25_2 : wc.cell? ⟨gb110, 2, none⟩ = some (.int .i64 ((rd_T34 l0 x9_1).f2)) := (blk_cell BK110.out 2).trans rfl
                            have hfz25_0 := blk_frozen BK110.out 0
                            have hfz25_1 := blk_frozen BK110.out 1
                            have hfz25_2 := blk_frozen BK110.out 2
                            go_wp2
                            go_meet
                            case rel => exact ⟨_, (decide (((rd_T34 l0 x9_1).f2) > 32768)), (by first | rfl | (simp; done) | (simp [*]; done)), H', ⟨by have := HK1.out; have := HJ4.out; first | omega | exact Nat.le_refl _⟩, ⟨by (with_reducible repeat (first | apply Kd.R_alloc | apply Kd.R_drewN | apply Kd.R_drew)); exact HO_4.out⟩, ⟨by (with_reducible repeat (first | refine blk_drewN ?_ _ | refine blk_drew ?_ | refine blk_alloc ?_ _)); exact BK110.out⟩, ⟨by repeat (first | (with_reducible first | exact HB.out | apply below_alloc | apply pw_below_drewN | apply below_drew1 | refine below_set ?_ GE110.out) | exact HB.out)⟩⟩
                    · rw [if_neg c18] at H
                      have c18b0 : (((rd_T34 l0 x9_1).f0) == 0) = false := beq_eq_false_iff_ne.mpr c18
                      have c18b1 : (((rd_T34 l0 x9_1).f0) != 0) = true := bne_iff_ne.mpr c18
                      (first | rw [c18b0] | (simp only [i64_w, i32_w]; rw [c18b0]) | skip)
                      have H' := Aside0.mk H
                      clear H
                      have hcz26_0 : wc.cell? ⟨gb110, 0, none⟩ = some (.int .i64 ((rd_T34 l0 x9_1).f0)) := (blk_cell BK110.out 0).trans rfl
                      have hcz26_1 : wc.cell? ⟨gb110, 1, none⟩ = some (.int .i64 ((rd_T34 l0 x9_1).f1)) := (blk_cell BK110.out 1).trans rfl
                      have hcz26_2 : wc.cell? ⟨gb110, 2, none⟩ = some (.int .i64 ((rd_T34 l0 x9_1).f2)) := (blk_cell BK110.out 2).trans rfl
                      have hfz26_0 := blk_frozen BK110.out 0
                      have hfz26_1 := blk_frozen BK110.out 1
                      have hfz26_2 := blk_frozen BK110.out 2
                      go_wp2
                      go_meet
                      case rel => exact ⟨_, (true), (by first | rfl | (simp; done) | (simp [*]; done)), H', ⟨by have := HK1.out; have := HJ4.out; first | omega | exact Nat.le_refl _⟩, ⟨by (with_reducible repeat (first | apply Kd.R_alloc | apply Kd.R_drewN | apply Kd.R_drew)); exact HO_4.out⟩, ⟨by (with_reducible repeat (first | refine blk_drewN ?_ _ | refine blk_drew ?_ | refine blk_alloc ?_ _)); exact BK110.out⟩, ⟨by repeat (first | (with_reducible first | exact HB.out | apply below_alloc | apply pw_below_drewN | apply below_drew1 | refine below_set ?_ GE110.out) | exact HB.out)⟩⟩
                  case rest =>
                    clear HC17
                    try clear c1
                    try clear p1
                    try clear q1
                    try clear hx1
                    try clear c2
                    try clear c2b0
                    try clear p2
                    try clear c3
                    try clear c3b0
                    try clear c4
                    try clear c4b0
                    try clear p6
                    try clear c8
                    try clear c8b0
                    try clear c8b1
                    try clear c8b2
                    try clear c9
                    try clear c9b0
                    try clear p10
                    try clear q10
                    try clear hx10
                    try clear c11
                    try clear c13
                    try clear c14
                    try clear c18
                    try clear c18b0
                    try clear c18b1
                    try clear c19
                    try clear c19b0
                    try clear c21
                    try clear c21b0
                    try clear c23
                    try clear c23b0
                    try clear hcz10_0
                    try clear hcz10_1
                    try clear hcz10_2
                    try clear hcz11_0
                    try clear hcz11_1
                    try clear hcz11_2
                    try clear hcz12_0
                    try clear hcz12_1
                    try clear hcz12_2
                    try clear hcz15_0
                    try clear hcz15_1
                    try clear hcz15_2
                    try clear hcz20_0
                    try clear hcz20_1
                    try clear hcz20_2
                    try clear hcz22_0
                    try clear hcz22_1
                    try clear hcz22_2
                    try clear hcz24_0
                    try clear hcz24_1
                    try clear hcz24_2
                    try clear hcz25_0
                    try clear hcz25_1
                    try clear hcz25_2
                    try clear hcz26_0
                    try clear hcz26_1
                    try clear hcz26_2
                    try clear hcz7_0
                    try clear hcz7_1
                    try clear hcz7_2
                    try clear hfz10_0
                    try clear hfz10_1
                    try clear hfz10_2
                    try clear hfz11_0
                    try clear hfz11_1
                    try clear hfz11_2
                    try clear hfz12_0
                    try clear hfz12_1
                    try clear hfz12_2
                    try clear hfz15_0
                    try clear hfz15_1
                    try clear hfz15_2
                    try clear hfz20_0
                    try clear hfz20_1
                    try clear hfz20_2
                    try clear hfz22_0
                    try clear hfz22_1
                    try clear hfz22_2
                    try clear hfz24_0
                    try clear hfz24_1
                    try clear hfz24_2
                    try clear hfz25_0
                    try clear hfz25_1
                    try clear hfz25_2
                    try clear hfz26_0
                    try clear hfz26_1
                    try clear hfz26_2
                    try clear hfz7_0
                    try clear hfz7_1
                    try clear hfz7_2
                    try clear hx109_0
                    try clear hx109_1
                    try clear hx109_2
                    try clear p1
                    try clear p10
                    try clear p109
                    try clear p2
                    try clear q1
                    try clear q10
                    try clear q109
                    obtain ⟨kq, x51_16, rfl, HA, HJ16, HO_4, BK110, HB⟩ := hcut
                    cases kq with
                    | zero => exact absurd HA.out (by simp [lz_Expand.j2])
                    | succ kj16 =>
                      have H := HA.out
                      clear HA
                      simp only [lz_Expand.j2] at H
                      by_cases c27 : x51_16 = true
                      · subst c27
                        have H1 : (some ((⟨#[]⟩ : ByteArray), 1)) = some (r1, r2) := by rw [if_pos rfl] at H; exact H
                        clear H
                        have H := H1
                        clear H1
                        simp only [Option.some.injEq, Prod.mk.injEq] at H
                        obtain ⟨rfl, rfl⟩ := H
                        go_wp2
                        go_ret2
                        exact ⟨by first | rfl | (simp [errW_none, errW_some] <;> rfl) | (simp [*, errW_none, errW_some] <;> rfl), by repeat (first | (with_reducible first | exact HB.out | apply below_alloc | apply pw_below_drewN | apply below_drew1 | refine below_set ?_ GE110.out) | exact HB.out)⟩
                      · replace c27 := Bool.eq_false_iff.mpr c27
                        subst c27
                        have H1 : (if ((rd_T34 l0 x9_1).f2) > (x4_1.length : Int) then (some ((⟨#[]⟩ : ByteArray), 15)) else (lz_Expand.l1 kj16 x4_1 l0 (l0.length : Int) x9_1 ((rd_T34 l0 x9_1).f1) 0 ((rd_T34 l0 x9_1).f0) ((rd_T34 l0 x9_1).f1) ((rd_T34 l0 x9_1).f2))) = some (r1, r2) := by rw [if_neg (show ¬ (false = true) by decide)] at H; exact H
                        clear H
                        have H := H1
                        clear H1
                        by_cases c28 : ((rd_T34 l0 x9_1).f2) > (x4_1.length : Int)
                        · rw [if_pos c28] at H
                          have c28b0 : decide ((x4_1.length : Int) < ((rd_T34 l0 x9_1).f2)) = true := decide_eq_true c28
                          clear c28
                          simp only [Option.some.injEq, Prod.mk.injEq] at H
                          obtain ⟨rfl, rfl⟩ := H
                          have hcz29_0 : wc.cell? ⟨gb110, 0, none⟩ = some (.int .i64 ((rd_T34 l0 x9_1).f0)) := (blk_cell BK110.out 0).trans rfl
                          have hcz29_1 : wc.cell? ⟨gb110, 1, none⟩ = some (.int .i64 ((rd_T34 l0 x9_1).f1)) := (blk_cell BK110.out 1).trans rfl
                          have hcz29_2 : wc.cell? ⟨gb110, 2, none⟩ = some (.int .i64 ((rd_T34 l0 x9_1).f2)) := (blk_cell BK110.out 2).trans rfl
                          have hfz29_0 := blk_frozen BK110.out 0
                          have hfz29_1 := blk_frozen BK110.out 1
                          have hfz29_2 := blk_frozen BK110.out 2
                          obtain ⟨Ao30, co30, eo30⟩ := Kd.R_slice HO_4.out
                          subst eo30
                          go_wp2
                          go_ret2
                          exact ⟨by first | rfl | (simp [errW_none, errW_some] <;> rfl) | (simp [*, errW_none, errW_some] <;> rfl), by repeat (first | (with_reducible first | exact HB.out | apply below_alloc | apply pw_below_drewN | apply below_drew1 | refine below_set ?_ GE110.out) | exact HB.out)⟩
                        · rw [if_neg c28] at H
                          have c28b0 : decide ((x4_1.length : Int) < ((rd_T34 l0 x9_1).f2)) = false := decide_eq_false c28
                          clear c28
                          have H' := Aside0.mk H
                          clear H
                          have hcz31_0 : wc.cell? ⟨gb110, 0, none⟩ = some (.int .i64 ((rd_T34 l0 x9_1).f0)) := (blk_cell BK110.out 0).trans rfl
                          have hcz31_1 : wc.cell? ⟨gb110, 1, none⟩ = some (.int .i64 ((rd_T34 l0 x9_1).f1)) := (blk_cell BK110.out 1).trans rfl
                          have hcz31_2 : wc.cell? ⟨gb110, 2, none⟩ = some (.int .i64 ((rd_T34 l0 x9_1).f2)) := (blk_cell BK110.out 2).trans rfl
                          have hfz31_0 := blk_frozen BK110.out 0
                          have hfz31_1 := blk_frozen BK110.out 1
                          have hfz31_2 := blk_frozen BK110.out 2
                          obtain ⟨Ao32, co32, eo32⟩ := Kd.R_slice HO_4.out
                          subst eo32
                          go_wp2
                          go_loopg [4, 15] kj16 (fun kq v4 v15 w' => ∃ (x4_4 : List Int) (x15_4 : Int), v15 = .int .i64 x15_4 ∧ Aside0 (lz_Expand.l1 kq x4_4 l0 (l0.length : Int) x9_1 ((rd_T34 l0 x9_1).f1) x15_4 ((rd_T34 l0 x9_1).f0) ((rd_T34 l0 x9_1).f1) ((rd_T34 l0 x9_1).f2) = some (r1, r2)) ∧ Aside0 (kq ≤ kj16) ∧ Aside0 (Kd.R (Kd.int .u8) 5 w' w.heap.size (fun _ => True) v4 x4_4) ∧ Aside0 (w'.heap[gb110]? = some (.cells #[.int .i64 ((rd_T34 l0 x9_1).f0), .int .i64 ((rd_T34 l0 x9_1).f1), .int .i64 ((rd_T34 l0 x9_1).f2)] 34 (0, 0))) ∧ Aside0 (Below w.heap.size w w'))
                          case atStart => exact ⟨(x4_1), (0), (by first | rfl | (simp; done) | (simp [*]; done)), H', ⟨Nat.le_refl _⟩, ⟨by (with_reducible repeat (first | apply Kd.R_alloc | apply Kd.R_drewN | apply Kd.R_drew)); exact HO_4.out⟩, ⟨by (with_reducible repeat (first | refine blk_drewN ?_ _ | refine blk_drew ?_ | refine blk_alloc ?_ _)); exact BK110.out⟩, ⟨by repeat (first | (with_reducible first | exact HB.out | apply below_alloc | apply pw_below_drewN | apply below_drew1 | refine below_set ?_ GE110.out) | exact HB.out)⟩⟩
                          case round =>
                            clear H'
                            try clear c1
                            try clear p1
                            try clear q1
                            try clear hx1
                            try clear c2
                            try clear c2b0
                            try clear p2
                            try clear c3
                            try clear c3b0
                            try clear c4
                            try clear c4b0
                            try clear p6
                            try clear c8
                            try clear c8b0
                            try clear c8b1
                            try clear c8b2
                            try clear c9
                            try clear c9b0
                            try clear p10
                            try clear q10
                            try clear hx10
                            try clear c11
                            try clear c13
                            try clear c14
                            try clear c18
                            try clear c18b0
                            try clear c18b1
                            try clear c19
                            try clear c19b0
                            try clear c21
                            try clear c21b0
                            try clear c23
                            try clear c23b0
                            try clear c27
                            try clear c28
                            try clear c28b0
                            try clear hcz10_0
                            try clear hcz10_1
                            try clear hcz10_2
                            try clear hcz11_0
                            try clear hcz11_1
                            try clear hcz11_2
                            try clear hcz12_0
                            try clear hcz12_1
                            try clear hcz12_2
                            try clear hcz15_0
                            try clear hcz15_1
                            try clear hcz15_2
                            try clear hcz20_0
                            try clear hcz20_1
                            try clear hcz20_2
                            try clear hcz22_0
                            try clear hcz22_1
                            try clear hcz22_2
                            try clear hcz24_0
                            try clear hcz24_1
                            try clear hcz24_2
                            try clear hcz25_0
                            try clear hcz25_1
                            try clear hcz25_2
                            try clear hcz26_0
                            try clear hcz26_1
                            try clear hcz26_2
                            try clear hcz29_0
                            try clear hcz29_1
                            try clear hcz29_2
                            try clear hcz31_0
                            try clear hcz31_1
                            try clear hcz31_2
                            try clear hcz7_0
                            try clear hcz7_1
                            try clear hcz7_2
                            try clear hfz10_0
                            try clear hfz10_1
                            try clear hfz10_2
                            try clear hfz11_0
                            try clear hfz11_1
                            try clear hfz11_2
                            try clear hfz12_0
                            try clear hfz12_1
                            try clear hfz12_2
                            try clear hfz15_0
                            try clear hfz15_1
                            try clear hfz15_2
                            try clear hfz20_0
                            try clear hfz20_1
                            try clear hfz20_2
                            try clear hfz22_0
                            try clear hfz22_1
                            try clear hfz22_2
                            try clear hfz24_0
                            try clear hfz24_1
                            try clear hfz24_2
                            try clear hfz25_0
                            try clear hfz25_1
                            try clear hfz25_2
                            try clear hfz26_0
                            try clear hfz26_1
                            try clear hfz26_2
                            try clear hfz29_0
                            try clear hfz29_1
                            try clear hfz29_2
                            try clear hfz31_0
                            try clear hfz31_1
                            try clear hfz31_2
                            try clear hfz7_0
                            try clear hfz7_1
                            try clear hfz7_2
                            try clear hx109_0
                            try clear hx109_1
                            try clear hx109_2
                            try clear p1
                            try clear p10
                            try clear p109
                            try clear p2
                            try clear p6
                            try clear q1
                            try clear q10
                            try clear q109
                            obtain ⟨x4_4, x15_4, rfl, HA, HK4, HO_4, BK110, HB⟩ := hrel
                            cases gk with
                            | zero => exact absurd HA.out (by simp [lz_Expand.l1])
                            | succ k4 =>
                              have H := HA.out
                              clear HA
                              simp only [lz_Expand.l1] at H
                              by_cases c33 : x15_4 < ((rd_T34 l0 x9_1).f1)
                              · rw [if_pos c33] at H
                                have c33b0 : decide (x15_4 < ((rd_T34 l0 x9_1).f1)) = true := decide_eq_true c33
                                clear c33
                                obtain ⟨ji34, hji34⟩ : ∃ j_ : Int, (wrap64 ((x4_4.length : Int) - ((rd_T34 l0 x9_1).f2))) = j_ := ⟨_, rfl⟩
                                replace H : (if 0 ≤ (ji34) then (if (ji34) < (x4_4.length : Int) then (if x4_4.length < 140737488355328 then (lz_Expand.l1 k4 (x4_4 ++ [rd x4_4 (ji34)]) l0 (l0.length : Int) x9_1 ((rd_T34 l0 x9_1).f1) (wrap64 (x15_4 + 1)) ((rd_T34 l0 x9_1).f0) ((rd_T34 l0 x9_1).f1) ((rd_T34 l0 x9_1).f2)) else (none)) else (none)) else (none)) = some (r1, r2) := by first | (rw [hji34] at H; exact H) | (simp only [hji34] at H ⊢; exact H)
                                have hji34w : (IntKind.i64.wrap ((x4_4.length : Int) - ((rd_T34 l0 x9_1).f2))) = ji34 := (i64_w _).trans hji34
                                by_cases c35 : 0 ≤ (ji34)
                                · rw [if_pos c35] at H
                                  have c35b0 : decide (0 ≤ (ji34)) = true := decide_eq_true c35
                                  clear c35
                                  by_cases c36 : (ji34) < (x4_4.length : Int)
                                  · rw [if_pos c36] at H
                                    have c36b0 : decide ((ji34) < (x4_4.length : Int)) = true := decide_eq_true c36
                                    clear c36
                                    by_cases c37 : x4_4.length < 140737488355328
                                    · rw [if_pos c37] at H
                                      have LMc37 := Aside0.mk c37
                                      clear c37
                                      obtain ⟨y115, hy115⟩ : ∃ y_ : List Int, y_ = (x4_4 ++ [rd x4_4 (ji34)]) := ⟨_, rfl⟩
                                      replace H : (lz_Expand.l1 k4 y115 l0 (l0.length : Int) x9_1 ((rd_T34 l0 x9_1).f1) (wrap64 (x15_4 + 1)) ((rd_T34 l0 x9_1).f0) ((rd_T34 l0 x9_1).f1) ((rd_T34 l0 x9_1).f2)) = some (r1, r2) := by first | (rw [hy115]; with_reducible exact H) | (have H2_ := (Option.bind_some _ _).symm.trans H; rw [hy115]; with_reducible exact H2_) | (have H2_ := (Option.bind_some _ _).symm.trans H; with_reducible exact H2_) | with_reducible exact H | (rw [hy115]; exact H) | exact H
                                      have Ny115 := Aside0.mk hy115
                                      clear hy115
                                      have H' := Aside0.mk H
                                      clear H
                                      obtain ⟨Ao38, co38, eo38⟩ := Kd.R_slice HO_4.out
                                      subst eo38
                                      have hcz39_0 : wr.cell? ⟨gb110, 0, none⟩ = some (.int .i64 ((rd_T34 l0 x9_1).f0)) := (blk_cell BK110.out 0).trans rfl
                                      have hcz39_1 : wr.cell? ⟨gb110, 1, none⟩ = some (.int .i64 ((rd_T34 l0 x9_1).f1)) := (blk_cell BK110.out 1).trans rfl
                                      have hcz39_2 : wr.cell? ⟨gb110, 2, none⟩ = some (.int .i64 ((rd_T34 l0 x9_1).f2)) := (blk_cell BK110.out 2).trans rfl
                                      have hfz39_0 := blk_frozen BK110.out 0
                                      have hfz39_1 := blk_frozen BK110.out 1
                                      have hfz39_2 := blk_frozen BK110.out 2
                                      have p114 : 0 ≤ ((ji34) : Int) := of_decide_eq_true (by first | (with_reducible assumption) | assumption)
                                      have q114 : (ji34) < (x4_4.length : Int) := of_decide_eq_true (by first | (with_reducible assumption) | assumption)
                                      obtain ⟨ad114, e114, hx114_0⟩ := Kd.at_int (Kd.R_reads' HO_4.out).2.2 (ji34) p114 q114
                                      cases e114
                                      replace p114 := eq_true p114
                                      replace q114 := eq_true q114
                                      go_wp2_with (first | ((with_reducible refine gate_builtin (b := .append) (xs := #[.tmp 17, .tmp 26]) rfl ?_); at_builtin; refine Kd.R_append (Kd.int .u8) (w0 := w) w.heap.size rfl (.tmp 17) (.tmp 26) 39 5 (.int .u8 0) 1 rfl Try.underlying39 info5 rfl (by decide) (by omega) (.slice (some ad114) x4_4.length co38) x4_4 (rd x4_4 (ji34)) [.int .u8 (rd x4_4 (ji34))] (fun _ => True) (fun _ => False) rfl rfl ?aP (fun _ hk => hk.elim) ?aF ?aO ?aB ?aS ?aL ?_; (case aP => exact rfl); (case aB => exact (by repeat (first | (with_reducible first | exact HB.out | apply below_alloc | apply pw_below_drewN | apply below_drew1 | refine below_set ?_ GE110.out) | exact HB.out))); (case aF => exact (fun _ _ => trivial)); (case aO => exact (by (with_reducible repeat (first | apply Kd.R_alloc | apply Kd.R_drewN | apply Kd.R_drew)); exact HO_4.out)); (case aS => exact (below_size (by repeat (first | (with_reducible first | exact HB.out | apply below_alloc | apply pw_below_drewN | apply below_drew1 | refine below_set ?_ GE110.out) | exact HB.out)))); (case aL => have := LMc37.out; omega); intro v116 w40 ho hb hg hat; rw [← Ny115.out] at ho; have n0_ := Aside0.mk (blk_grown (g := gb110) (o := .cells #[.int .i64 ((rd_T34 l0 x9_1).f0), .int .i64 ((rd_T34 l0 x9_1).f1), .int .i64 ((rd_T34 l0 x9_1).f2)] 34 (0, 0)) (by (with_reducible repeat (first | refine blk_drewN ?_ _ | refine blk_drew ?_ | refine blk_alloc ?_ _)); exact BK110.out) hg (Kd.R_ne HO_4.out BK110.out (by decide))); have n1_ := Aside0.mk (hb); have n2_ := Aside0.mk (ho); clear BK110; clear HB; clear HO_4; have BK110 := n0_; have HB := n1_; have HO117 := n2_; clear n0_ n1_ n2_; clear ho hb hg hat))
                                      go_roundg k4
                                      case measure => have := HK1.out; have := HJ4.out; have := HJ16.out; have := HK4.out; omega
                                      case rel => exact ⟨(y115), (wrap64 (x15_4 + 1)), (by first | rfl | (simp; done) | (simp [*]; done)), H', ⟨by have := HK1.out; have := HJ4.out; have := HJ16.out; have := HK4.out; omega⟩, ⟨by (with_reducible repeat (first | apply Kd.R_alloc | apply Kd.R_drewN | apply Kd.R_drew)); exact HO117.out⟩, ⟨by (with_reducible repeat (first | refine blk_drewN ?_ _ | refine blk_drew ?_ | refine blk_alloc ?_ _)); exact BK110.out⟩, ⟨by repeat (first | (with_reducible first | exact HB.out | apply below_alloc | apply pw_below_drewN | apply below_drew1 | refine below_set ?_ GE110.out) | exact HB.out)⟩⟩
                                    · rw [if_neg c37] at H
                                      exact absurd H (by simp)
                                  · rw [if_neg c36] at H
                                    exact absurd H (by simp)
                                · rw [if_neg c35] at H
                                  exact absurd H (by simp)
                              · rw [if_neg c33] at H
                                have c33b0 : decide (x15_4 < ((rd_T34 l0 x9_1).f1)) = false := decide_eq_false c33
                                clear c33
                                have H' := Aside0.mk H
                                clear H
                                go_wp2
                                go_roundg k4
                                case measure => have := HK1.out; have := HJ4.out; have := HJ16.out; have := HK4.out; omega
                                case rel => exact ⟨(x4_4), (wrap64 (x9_1 + 1)), (by first | rfl | (simp; done) | (simp [*]; done)), H', ⟨by have := HK1.out; have := HJ4.out; have := HJ16.out; have := HK4.out; omega⟩, ⟨by (with_reducible repeat (first | apply Kd.R_alloc | apply Kd.R_drewN | apply Kd.R_drew)); exact HO_4.out⟩, ⟨by repeat (first | (with_reducible first | exact HB.out | apply below_alloc | apply pw_below_drewN | apply below_drew1 | refine below_set ?_ GE110.out) | exact HB.out)⟩⟩
          · rw [if_neg c4] at H
            exact absurd H (by simp)
        · rw [if_neg c3] at H
          exact absurd H (by simp)
      · rw [if_neg c2] at H
        have c2b0 : decide (x9_1 < (l0.length : Int)) = false := decide_eq_false c2
        clear c2
        simp only [Option.some.injEq, Prod.mk.injEq] at H
        obtain ⟨rfl, rfl⟩ := H
        have hcv41 := own_string (P := Try.prog) Try.underlying39 Try.underlying5 Try.underlying9 (Kd.own_of_R HO_4.out)
        go_wp2
        go_ret2
        exact ⟨by first | rfl | (simp [errW_none, errW_some] <;> rfl) | (simp [*, errW_none, errW_some] <;> rfl), by repeat (first | (with_reducible first | exact HB.out | apply below_alloc | apply pw_below_drewN | apply below_drew1) | exact HB.out)⟩

/-! ### vitrinelaw04_awake: function 10 -/
def vitrinelaw04_awake.f (k : Nat)  : Option (Bool) := (lz_Expand.f k (([(⟨0, 3, 1⟩ : S34)] : List (S34)))).bind fun bt121 => ((lz_Expand.f k (([(⟨0, 2, 1⟩ : S34)] : List (S34)))).bind fun bt126 => ((lz_Tokens.f (⟨#[97, 98, 99, 97, 98, 99, 97, 98]⟩ : ByteArray)).bind fun t128 => ((vitrinelaw04_tokens.f k t128 (([(⟨97, 0, 0⟩ : S34), (⟨98, 0, 0⟩ : S34), (⟨99, 0, 0⟩ : S34), (⟨0, 5, 3⟩ : S34)] : List (S34)))).bind fun t134 => (if t134 = true then ((lz_Tokens.f (⟨#[97, 97, 97, 97]⟩ : ByteArray)).bind fun t135 => ((vitrinelaw04_tokens.f k t135 (([(⟨97, 0, 0⟩ : S34), (⟨0, 3, 1⟩ : S34)] : List (S34)))).bind fun t141 => (if t141 = true then (if bt121.2 = 15 then (some (bt126.2 == 1)) else (some false)) else (some false)))) else (some false)))))
theorem vitrinelaw04_awake.mono : ∀ k, LeO (vitrinelaw04_awake.f k ) (vitrinelaw04_awake.f (k + 1) ) := by
  intro  k
  unfold vitrinelaw04_awake.f
  repeat' first
      | (with_reducible exact lz_Expand.mono _ _)
      | (with_reducible exact vitrinelaw04_tokens.mono _ _ _)
      | (with_reducible exact LeO.refl _)
      | (with_reducible exact LeO.none _)
      | (with_reducible refine LeO.ite ?_ ?_)
      | (with_reducible refine LeO.bind ?_ (fun _ => ?_))
      | exact lz_Expand.mono _ _
      | exact vitrinelaw04_tokens.mono _ _ _
      | exact LeO.none _
      | refine LeO.ite ?_ ?_
      | refine LeO.bind ?_ (fun _ => ?_)
set_option maxHeartbeats 8000000 in
set_option maxRecDepth 100000 in
theorem vitrinelaw04_awake.calls (k : Nat)  (r : Bool) (w : World) (h : vitrinelaw04_awake.f k  = some r) :
    Calls Try.prog 10 #[] w fun e w' => e = .returned (.bool r) ∧ Below w.heap.size w w' := by
  have hu34 := Try.underlying34
  have HB := Aside0.mk (Below.refl w.heap.size w)
  have H : ((lz_Expand.f k (([(⟨0, 3, 1⟩ : S34)] : List (S34)))).bind fun bt121 => ((lz_Expand.f k (([(⟨0, 2, 1⟩ : S34)] : List (S34)))).bind fun bt126 => ((lz_Tokens.f (⟨#[97, 98, 99, 97, 98, 99, 97, 98]⟩ : ByteArray)).bind fun t128 => ((vitrinelaw04_tokens.f k t128 (([(⟨97, 0, 0⟩ : S34), (⟨98, 0, 0⟩ : S34), (⟨99, 0, 0⟩ : S34), (⟨0, 5, 3⟩ : S34)] : List (S34)))).bind fun t134 => (if t134 = true then ((lz_Tokens.f (⟨#[97, 97, 97, 97]⟩ : ByteArray)).bind fun t135 => ((vitrinelaw04_tokens.f k t135 (([(⟨97, 0, 0⟩ : S34), (⟨0, 3, 1⟩ : S34)] : List (S34)))).bind fun t141 => (if t141 = true then (if bt121.2 = 15 then (some (bt126.2 == 1)) else (some false)) else (some false)))) else (some false)))))) = some r := h
  clear h
  obtain ⟨y118, hy118⟩ : ∃ y_ : List (S34), y_ = (([(⟨0, 3, 1⟩ : S34)] : List (S34))) := ⟨_, rfl⟩
  replace H : ((lz_Expand.f k y118).bind fun bt121 => ((lz_Expand.f k (([(⟨0, 2, 1⟩ : S34)] : List (S34)))).bind fun bt126 => ((lz_Tokens.f (⟨#[97, 98, 99, 97, 98, 99, 97, 98]⟩ : ByteArray)).bind fun t128 => ((vitrinelaw04_tokens.f k t128 (([(⟨97, 0, 0⟩ : S34), (⟨98, 0, 0⟩ : S34), (⟨99, 0, 0⟩ : S34), (⟨0, 5, 3⟩ : S34)] : List (S34)))).bind fun t134 => (if t134 = true then ((lz_Tokens.f (⟨#[97, 97, 97, 97]⟩ : ByteArray)).bind fun t135 => ((vitrinelaw04_tokens.f k t135 (([(⟨97, 0, 0⟩ : S34), (⟨0, 3, 1⟩ : S34)] : List (S34)))).bind fun t141 => (if t141 = true then (if bt121.2 = 15 then (some (bt126.2 == 1)) else (some false)) else (some false)))) else (some false)))))) = some r := by first | (rw [hy118]; with_reducible exact H) | (have H2_ := (Option.bind_some _ _).symm.trans H; rw [hy118]; with_reducible exact H2_) | (have H2_ := (Option.bind_some _ _).symm.trans H; with_reducible exact H2_) | with_reducible exact H | (rw [hy118]; exact H) | exact H
  have Ny118 := Aside0.mk hy118
  clear hy118
  replace H := Option.bind_eq_some_iff.mp H
  obtain ⟨⟨t121, t122⟩, A10, H⟩ := H
  replace H : ((lz_Expand.f k (([(⟨0, 2, 1⟩ : S34)] : List (S34)))).bind fun bt126 => ((lz_Tokens.f (⟨#[97, 98, 99, 97, 98, 99, 97, 98]⟩ : ByteArray)).bind fun t128 => ((vitrinelaw04_tokens.f k t128 (([(⟨97, 0, 0⟩ : S34), (⟨98, 0, 0⟩ : S34), (⟨99, 0, 0⟩ : S34), (⟨0, 5, 3⟩ : S34)] : List (S34)))).bind fun t134 => (if t134 = true then ((lz_Tokens.f (⟨#[97, 97, 97, 97]⟩ : ByteArray)).bind fun t135 => ((vitrinelaw04_tokens.f k t135 (([(⟨97, 0, 0⟩ : S34), (⟨0, 3, 1⟩ : S34)] : List (S34)))).bind fun t141 => (if t141 = true then (if t122 = 15 then (some (bt126.2 == 1)) else (some false)) else (some false)))) else (some false))))) = some r := H
  have A1 := Aside0.mk A10
  clear A10
  obtain ⟨y123, hy123⟩ : ∃ y_ : List (S34), y_ = (([(⟨0, 2, 1⟩ : S34)] : List (S34))) := ⟨_, rfl⟩
  replace H : ((lz_Expand.f k y123).bind fun bt126 => ((lz_Tokens.f (⟨#[97, 98, 99, 97, 98, 99, 97, 98]⟩ : ByteArray)).bind fun t128 => ((vitrinelaw04_tokens.f k t128 (([(⟨97, 0, 0⟩ : S34), (⟨98, 0, 0⟩ : S34), (⟨99, 0, 0⟩ : S34), (⟨0, 5, 3⟩ : S34)] : List (S34)))).bind fun t134 => (if t134 = true then ((lz_Tokens.f (⟨#[97, 97, 97, 97]⟩ : ByteArray)).bind fun t135 => ((vitrinelaw04_tokens.f k t135 (([(⟨97, 0, 0⟩ : S34), (⟨0, 3, 1⟩ : S34)] : List (S34)))).bind fun t141 => (if t141 = true then (if t122 = 15 then (some (bt126.2 == 1)) else (some false)) else (some false)))) else (some false))))) = some r := by first | (rw [hy123]; with_reducible exact H) | (have H2_ := (Option.bind_some _ _).symm.trans H; rw [hy123]; with_reducible exact H2_) | (have H2_ := (Option.bind_some _ _).symm.trans H; with_reducible exact H2_) | with_reducible exact H | (rw [hy123]; exact H) | exact H
  have Ny123 := Aside0.mk hy123
  clear hy123
  replace H := Option.bind_eq_some_iff.mp H
  obtain ⟨⟨t126, t127⟩, A20, H⟩ := H
  replace H : ((lz_Tokens.f (⟨#[97, 98, 99, 97, 98, 99, 97, 98]⟩ : ByteArray)).bind fun t128 => ((vitrinelaw04_tokens.f k t128 (([(⟨97, 0, 0⟩ : S34), (⟨98, 0, 0⟩ : S34), (⟨99, 0, 0⟩ : S34), (⟨0, 5, 3⟩ : S34)] : List (S34)))).bind fun t134 => (if t134 = true then ((lz_Tokens.f (⟨#[97, 97, 97, 97]⟩ : ByteArray)).bind fun t135 => ((vitrinelaw04_tokens.f k t135 (([(⟨97, 0, 0⟩ : S34), (⟨0, 3, 1⟩ : S34)] : List (S34)))).bind fun t141 => (if t141 = true then (if t122 = 15 then (some (t127 == 1)) else (some false)) else (some false)))) else (some false)))) = some r := H
  have A2 := Aside0.mk A20
  clear A20
  replace H := Option.bind_eq_some_iff.mp H
  obtain ⟨t128, A30, H⟩ := H
  replace H : ((vitrinelaw04_tokens.f k t128 (([(⟨97, 0, 0⟩ : S34), (⟨98, 0, 0⟩ : S34), (⟨99, 0, 0⟩ : S34), (⟨0, 5, 3⟩ : S34)] : List (S34)))).bind fun t134 => (if t134 = true then ((lz_Tokens.f (⟨#[97, 97, 97, 97]⟩ : ByteArray)).bind fun t135 => ((vitrinelaw04_tokens.f k t135 (([(⟨97, 0, 0⟩ : S34), (⟨0, 3, 1⟩ : S34)] : List (S34)))).bind fun t141 => (if t141 = true then (if t122 = 15 then (some (t127 == 1)) else (some false)) else (some false)))) else (some false))) = some r := H
  have A3 := Aside0.mk A30
  clear A30
  obtain ⟨y131, hy131⟩ : ∃ y_ : List (S34), y_ = (([(⟨97, 0, 0⟩ : S34), (⟨98, 0, 0⟩ : S34), (⟨99, 0, 0⟩ : S34), (⟨0, 5, 3⟩ : S34)] : List (S34))) := ⟨_, rfl⟩
  replace H : ((vitrinelaw04_tokens.f k t128 y131).bind fun t134 => (if t134 = true then ((lz_Tokens.f (⟨#[97, 97, 97, 97]⟩ : ByteArray)).bind fun t135 => ((vitrinelaw04_tokens.f k t135 (([(⟨97, 0, 0⟩ : S34), (⟨0, 3, 1⟩ : S34)] : List (S34)))).bind fun t141 => (if t141 = true then (if t122 = 15 then (some (t127 == 1)) else (some false)) else (some false)))) else (some false))) = some r := by first | (rw [hy131]; with_reducible exact H) | (have H2_ := (Option.bind_some _ _).symm.trans H; rw [hy131]; with_reducible exact H2_) | (have H2_ := (Option.bind_some _ _).symm.trans H; with_reducible exact H2_) | with_reducible exact H | (rw [hy131]; exact H) | exact H
  have Ny131 := Aside0.mk hy131
  clear hy131
  replace H := Option.bind_eq_some_iff.mp H
  obtain ⟨t134, A40, H⟩ := H
  replace H : (if t134 = true then ((lz_Tokens.f (⟨#[97, 97, 97, 97]⟩ : ByteArray)).bind fun t135 => ((vitrinelaw04_tokens.f k t135 (([(⟨97, 0, 0⟩ : S34), (⟨0, 3, 1⟩ : S34)] : List (S34)))).bind fun t141 => (if t141 = true then (if t122 = 15 then (some (t127 == 1)) else (some false)) else (some false)))) else (some false)) = some r := H
  have A4 := Aside0.mk A40
  clear A40
  by_cases c5 : t134 = true
  · subst c5
    have H1 : ((lz_Tokens.f (⟨#[97, 97, 97, 97]⟩ : ByteArray)).bind fun t135 => ((vitrinelaw04_tokens.f k t135 (([(⟨97, 0, 0⟩ : S34), (⟨0, 3, 1⟩ : S34)] : List (S34)))).bind fun t141 => (if t141 = true then (if t122 = 15 then (some (t127 == 1)) else (some false)) else (some false)))) = some r := by rw [if_pos rfl] at H; exact H
    clear H
    have H := H1
    clear H1
    replace H := Option.bind_eq_some_iff.mp H
    obtain ⟨t135, A60, H⟩ := H
    replace H : ((vitrinelaw04_tokens.f k t135 (([(⟨97, 0, 0⟩ : S34), (⟨0, 3, 1⟩ : S34)] : List (S34)))).bind fun t141 => (if t141 = true then (if t122 = 15 then (some (t127 == 1)) else (some false)) else (some false))) = some r := H
    have A6 := Aside0.mk A60
    clear A60
    obtain ⟨y138, hy138⟩ : ∃ y_ : List (S34), y_ = (([(⟨97, 0, 0⟩ : S34), (⟨0, 3, 1⟩ : S34)] : List (S34))) := ⟨_, rfl⟩
    replace H : ((vitrinelaw04_tokens.f k t135 y138).bind fun t141 => (if t141 = true then (if t122 = 15 then (some (t127 == 1)) else (some false)) else (some false))) = some r := by first | (rw [hy138]; with_reducible exact H) | (have H2_ := (Option.bind_some _ _).symm.trans H; rw [hy138]; with_reducible exact H2_) | (have H2_ := (Option.bind_some _ _).symm.trans H; with_reducible exact H2_) | with_reducible exact H | (rw [hy138]; exact H) | exact H
    have Ny138 := Aside0.mk hy138
    clear hy138
    replace H := Option.bind_eq_some_iff.mp H
    obtain ⟨t141, A70, H⟩ := H
    replace H : (if t141 = true then (if t122 = 15 then (some (t127 == 1)) else (some false)) else (some false)) = some r := H
    have A7 := Aside0.mk A70
    clear A70
    by_cases c8 : t141 = true
    · subst c8
      have H1 : (if t122 = 15 then (some (t127 == 1)) else (some false)) = some r := by rw [if_pos rfl] at H; exact H
      clear H
      have H := H1
      clear H1
      by_cases c9 : t122 = 15
      · rw [if_pos c9] at H
        have c9b0 : (t122 == 15) = true := beq_iff_eq.mpr c9
        have c9b1 : (t122 != 15) = false := bne_eq_false_iff_eq.mpr c9
        clear c9
        obtain rfl := Option.some.inj H
        go_enter Try.func10, Try.ntmps10
        go_wp2_with (first | ((with_reducible refine gate_dst (N := 7) rfl ?_); (try (refine gate_guard (by rfl) ?_; dsimp only)); refine Kd.R_lit k34 _ 34 ?hg (N := 7) ?hd (xs := ([(⟨0, 3, 1⟩ : S34)] : List (S34))) (inner := [.int .i64 0, .int .i64 3, .int .i64 1]) (ok := fun _ => True) (okp := fun _ => True) ?hr ?hp (fun _ hk => hk) trivial (Below.refl _ _) (Nat.le_refl _) (by simp) ?_; (case hd => rfl); (case hg => rfl); (case hr => first | (go_simp; done) | (go_simp; rfl)); (case hp => exact (Reps.c3 (show Kd.M k34 _ _ _ (⟨0, 3, 1⟩ : S34) [.int .i64 0, .int .i64 3, .int .i64 1] from (k34_mkM _ _ _ (⟨0, 3, 1⟩ : S34) )) (Reps.none _ _))); intro v119 w10 ho11 hb hg_ hnew_; clear hg_ hnew_; (first | rw [← Ny118.out] at ho11 | (simp only [Int.reduceToNat] at ho11; rw [← Ny118.out] at ho11)); have n0_ := Aside0.mk (Kd.R_lower ho11 (below_size (by repeat (first | (with_reducible first | exact HB.out | apply below_alloc | apply pw_below_drewN | apply below_drew1) | exact HB.out)))); have n1_ := Aside0.mk (below_step (by repeat (first | (with_reducible first | exact HB.out | apply below_alloc | apply pw_below_drewN | apply below_drew1) | exact HB.out)) hb); clear HB; have HO120 := n0_; have HB := n1_; clear n0_ n1_; clear hb ho11; obtain ⟨Ao12, co12, eo12⟩ := Kd.R_slice HO120.out; subst eo12) | ((with_reducible refine gate_callee (f := 11) rfl ?_); refine goesL_ (some 8) rfl rfl Try.func11 (by kernel_rfl) rfl #[.slice Ao12 y118.length co12] rfl (by (try simp only [List.map_toArray, List.map_cons, List.map_nil]); first | done | rfl | (simp only [List.length_drop, List.length_take]; rfl)) ?_; (with_reducible refine (lz_Expand.calls k _ _ y118 t121 t122 _ ?side1 ?side2 A1.out).mono ?_); (case side1 => repeat (first | exact (Kd.R_reads' HO120.out).2.2 | (with_reducible refine Kd.C_alloc ?_ _) | (with_reducible refine Kd.C_drewN ?_ _) | (with_reducible refine Kd.C_drew ?_))); (case side2 => exact (Kd.R_reads' HO120.out).2.1); rintro e w13 ⟨rfl, hb⟩; refine ⟨_, rfl, ?_⟩; have n0_ := Aside0.mk (Kd.R_below (by (with_reducible repeat (first | apply Kd.R_alloc | apply Kd.R_drewN | apply Kd.R_drew)); exact HO120.out) hb); have n1_ := Aside0.mk (below_step (by repeat (first | (with_reducible first | exact HB.out | apply below_alloc | apply pw_below_drewN | apply below_drew1) | exact HB.out)) hb); clear HO120; clear HB; have HO120 := n0_; have HB := n1_; clear n0_ n1_; (try clear hb); (try clear hb2); (try clear hk); (try clear hi)) | ((with_reducible refine gate_dst (N := 13) rfl ?_); (try (refine gate_guard (by rfl) ?_; dsimp only)); refine Kd.R_lit k34 _ 34 ?hg (N := 13) ?hd (xs := ([(⟨0, 2, 1⟩ : S34)] : List (S34))) (inner := [.int .i64 0, .int .i64 2, .int .i64 1]) (ok := fun _ => True) (okp := fun _ => True) ?hr ?hp (fun _ hk => hk) trivial (Below.refl _ _) (Nat.le_refl _) (by simp) ?_; (case hd => rfl); (case hg => rfl); (case hr => first | (go_simp; done) | (go_simp; rfl)); (case hp => exact (Reps.c3 (show Kd.M k34 _ _ _ (⟨0, 2, 1⟩ : S34) [.int .i64 0, .int .i64 2, .int .i64 1] from (k34_mkM _ _ _ (⟨0, 2, 1⟩ : S34) )) (Reps.none _ _))); intro v124 w14 ho15 hb hg_ hnew_; clear hg_ hnew_; (first | rw [← Ny123.out] at ho15 | (simp only [Int.reduceToNat] at ho15; rw [← Ny123.out] at ho15)); have n0_ := Aside0.mk (Kd.R_elder' (by (with_reducible repeat (first | apply Kd.R_alloc | apply Kd.R_drewN | apply Kd.R_drew)); exact HO120.out) (Kd.R_base ho15) hb); have n1_ := Aside0.mk (Kd.R_lower (Kd.R_new' ho15 (Kd.R_lt (by (with_reducible repeat (first | apply Kd.R_alloc | apply Kd.R_drewN | apply Kd.R_drew)); exact HO120.out))) (below_size (by repeat (first | (with_reducible first | exact HB.out | apply below_alloc | apply pw_below_drewN | apply below_drew1) | exact HB.out)))); have n2_ := Aside0.mk (below_step (by repeat (first | (with_reducible first | exact HB.out | apply below_alloc | apply pw_below_drewN | apply below_drew1) | exact HB.out)) hb); clear HO120; clear HB; have HO120 := n0_; have HO125 := n1_; have HB := n2_; clear n0_ n1_ n2_; clear hb ho15; obtain ⟨Ao16, co16, eo16⟩ := Kd.R_slice HO125.out; subst eo16) | ((with_reducible refine gate_callee (f := 11) rfl ?_); refine goesL_ (some 14) rfl rfl Try.func11 (by kernel_rfl) rfl #[.slice Ao16 y123.length co16] rfl (by (try simp only [List.map_toArray, List.map_cons, List.map_nil]); first | done | rfl | (simp only [List.length_drop, List.length_take]; rfl)) ?_; (with_reducible refine (lz_Expand.calls k _ _ y123 t126 t127 _ ?side1 ?side2 A2.out).mono ?_); (case side1 => repeat (first | exact (Kd.R_reads' HO125.out).2.2 | (with_reducible refine Kd.C_alloc ?_ _) | (with_reducible refine Kd.C_drewN ?_ _) | (with_reducible refine Kd.C_drew ?_))); (case side2 => exact (Kd.R_reads' HO125.out).2.1); rintro e w17 ⟨rfl, hb⟩; refine ⟨_, rfl, ?_⟩; have n0_ := Aside0.mk (Kd.R_below (by (with_reducible repeat (first | apply Kd.R_alloc | apply Kd.R_drewN | apply Kd.R_drew)); exact HO120.out) hb); have n1_ := Aside0.mk (Kd.R_below (by (with_reducible repeat (first | apply Kd.R_alloc | apply Kd.R_drewN | apply Kd.R_drew)); exact HO125.out) hb); have n2_ := Aside0.mk (below_step (by repeat (first | (with_reducible first | exact HB.out | apply below_alloc | apply pw_below_drewN | apply below_drew1) | exact HB.out)) hb); clear HO120; clear HO125; clear HB; have HO120 := n0_; have HO125 := n1_; have HB := n2_; clear n0_ n1_ n2_; (try clear hb); (try clear hb2); (try clear hk); (try clear hi)) | ((with_reducible refine gate_callee (f := 8) rfl ?_); refine goesL_ (some 17) rfl rfl Try.func8 (by kernel_rfl) rfl #[.string (⟨#[97, 98, 99, 97, 98, 99, 97, 98]⟩ : ByteArray)] rfl (by (try simp only [List.map_toArray, List.map_cons, List.map_nil]); first | done | rfl | (simp only [List.length_drop, List.length_take]; rfl)) ?_; (with_reducible refine (lz_Tokens.calls (⟨#[97, 98, 99, 97, 98, 99, 97, 98]⟩ : ByteArray) t128 _ A3.out).mono ?_); rintro e w18 ⟨v129, rfl, ho0, hb⟩; refine ⟨_, rfl, ?_⟩; have n0_ := Aside0.mk (Kd.R_elder' (by (with_reducible repeat (first | apply Kd.R_alloc | apply Kd.R_drewN | apply Kd.R_drew)); exact HO120.out) (Kd.R_base ho0) hb); have n1_ := Aside0.mk (Kd.R_elder' (by (with_reducible repeat (first | apply Kd.R_alloc | apply Kd.R_drewN | apply Kd.R_drew)); exact HO125.out) (Kd.R_base ho0) hb); have n2_ := Aside0.mk (Kd.R_lower (Kd.R_new' (Kd.R_new' ho0 (Kd.R_lt (by (with_reducible repeat (first | apply Kd.R_alloc | apply Kd.R_drewN | apply Kd.R_drew)); exact HO120.out))) (Kd.R_lt (by (with_reducible repeat (first | apply Kd.R_alloc | apply Kd.R_drewN | apply Kd.R_drew)); exact HO125.out))) (below_size (by repeat (first | (with_reducible first | exact HB.out | apply below_alloc | apply pw_below_drewN | apply below_drew1) | exact HB.out)))); have n3_ := Aside0.mk (below_step (by repeat (first | (with_reducible first | exact HB.out | apply below_alloc | apply pw_below_drewN | apply below_drew1) | exact HB.out)) hb); clear HO120; clear HO125; clear HB; have HO120 := n0_; have HO125 := n1_; have HO130 := n2_; have HB := n3_; clear n0_ n1_ n2_ n3_; (try clear hb); (try clear hb2); (try clear hk); (try clear hi); (try clear ho0)) | ((with_reducible refine gate_dst (N := 22) rfl ?_); (try (refine gate_guard (by rfl) ?_; dsimp only)); refine Kd.R_lit k34 _ 34 ?hg (N := 22) ?hd (xs := ([(⟨97, 0, 0⟩ : S34), (⟨98, 0, 0⟩ : S34), (⟨99, 0, 0⟩ : S34), (⟨0, 5, 3⟩ : S34)] : List (S34))) (inner := [.int .i64 97, .int .i64 0, .int .i64 0, .int .i64 98, .int .i64 0, .int .i64 0, .int .i64 99, .int .i64 0, .int .i64 0, .int .i64 0, .int .i64 5, .int .i64 3]) (ok := fun _ => True) (okp := fun _ => True) ?hr ?hp (fun _ hk => hk) trivial (Below.refl _ _) (Nat.le_refl _) (by simp) ?_; (case hd => rfl); (case hg => rfl); (case hr => first | (go_simp; done) | (go_simp; rfl)); (case hp => exact (Reps.c3 (show Kd.M k34 _ _ _ (⟨97, 0, 0⟩ : S34) [.int .i64 97, .int .i64 0, .int .i64 0] from (k34_mkM _ _ _ (⟨97, 0, 0⟩ : S34) )) (Reps.c3 (show Kd.M k34 _ _ _ (⟨98, 0, 0⟩ : S34) [.int .i64 98, .int .i64 0, .int .i64 0] from (k34_mkM _ _ _ (⟨98, 0, 0⟩ : S34) )) (Reps.c3 (show Kd.M k34 _ _ _ (⟨99, 0, 0⟩ : S34) [.int .i64 99, .int .i64 0, .int .i64 0] from (k34_mkM _ _ _ (⟨99, 0, 0⟩ : S34) )) (Reps.c3 (show Kd.M k34 _ _ _ (⟨0, 5, 3⟩ : S34) [.int .i64 0, .int .i64 5, .int .i64 3] from (k34_mkM _ _ _ (⟨0, 5, 3⟩ : S34) )) (Reps.none _ _)))))); intro v132 w19 ho20 hb hg_ hnew_; clear hg_ hnew_; (first | rw [← Ny131.out] at ho20 | (simp only [Int.reduceToNat] at ho20; rw [← Ny131.out] at ho20)); have n0_ := Aside0.mk (Kd.R_elder' (by (with_reducible repeat (first | apply Kd.R_alloc | apply Kd.R_drewN | apply Kd.R_drew)); exact HO120.out) (Kd.R_base ho20) hb); have n1_ := Aside0.mk (Kd.R_elder' (by (with_reducible repeat (first | apply Kd.R_alloc | apply Kd.R_drewN | apply Kd.R_drew)); exact HO125.out) (Kd.R_base ho20) hb); have n2_ := Aside0.mk (Kd.R_elder' (by (with_reducible repeat (first | apply Kd.R_alloc | apply Kd.R_drewN | apply Kd.R_drew)); exact HO130.out) (Kd.R_base ho20) hb); have n3_ := Aside0.mk (Kd.R_lower (Kd.R_new' (Kd.R_new' (Kd.R_new' ho20 (Kd.R_lt (by (with_reducible repeat (first | apply Kd.R_alloc | apply Kd.R_drewN | apply Kd.R_drew)); exact HO120.out))) (Kd.R_lt (by (with_reducible repeat (first | apply Kd.R_alloc | apply Kd.R_drewN | apply Kd.R_drew)); exact HO125.out))) (Kd.R_lt (by (with_reducible repeat (first | apply Kd.R_alloc | apply Kd.R_drewN | apply Kd.R_drew)); exact HO130.out))) (below_size (by repeat (first | (with_reducible first | exact HB.out | apply below_alloc | apply pw_below_drewN | apply below_drew1) | exact HB.out)))); have n4_ := Aside0.mk (below_step (by repeat (first | (with_reducible first | exact HB.out | apply below_alloc | apply pw_below_drewN | apply below_drew1) | exact HB.out)) hb); clear HO120; clear HO125; clear HO130; clear HB; have HO120 := n0_; have HO125 := n1_; have HO130 := n2_; have HO133 := n3_; have HB := n4_; clear n0_ n1_ n2_ n3_ n4_; clear hb ho20; obtain ⟨Ao21, co21, eo21⟩ := Kd.R_slice HO130.out; subst eo21; obtain ⟨Ao22, co22, eo22⟩ := Kd.R_slice HO133.out; subst eo22) | ((with_reducible refine gate_callee (f := 7) rfl ?_); refine goesL_ (some 23) rfl rfl Try.func7 (by kernel_rfl) rfl #[.slice Ao21 t128.length co21, .slice Ao22 y131.length co22] rfl (by (try simp only [List.map_toArray, List.map_cons, List.map_nil]); first | done | rfl | (simp only [List.length_drop, List.length_take]; rfl)) ?_; (with_reducible refine (vitrinelaw04_tokens.calls k _ _ t128 _ _ y131 true _ ?side1 ?side2 ?side3 ?side4 A4.out).mono ?_); (case side1 => repeat (first | exact (Kd.R_reads' HO130.out).2.2 | (with_reducible refine Kd.C_alloc ?_ _) | (with_reducible refine Kd.C_drewN ?_ _) | (with_reducible refine Kd.C_drew ?_))); (case side2 => exact (Kd.R_reads' HO130.out).2.1); (case side3 => repeat (first | exact (Kd.R_reads' HO133.out).2.2 | (with_reducible refine Kd.C_alloc ?_ _) | (with_reducible refine Kd.C_drewN ?_ _) | (with_reducible refine Kd.C_drew ?_))); (case side4 => exact (Kd.R_reads' HO133.out).2.1); rintro e w' ⟨rfl, ⟨nd, rfl⟩⟩; refine ⟨_, rfl, ?_⟩) | (go_at_call 8; (with_reducible refine (lz_Tokens.calls (⟨#[97, 97, 97, 97]⟩ : ByteArray) t135 _ A6.out).mono ?_); rintro e w23 ⟨v136, rfl, ho0, hb⟩; have n0_ := Aside0.mk (Kd.R_elder' (by (with_reducible repeat (first | apply Kd.R_alloc | apply Kd.R_drewN | apply Kd.R_drew)); exact HO120.out) (Kd.R_base ho0) hb); have n1_ := Aside0.mk (Kd.R_elder' (by (with_reducible repeat (first | apply Kd.R_alloc | apply Kd.R_drewN | apply Kd.R_drew)); exact HO125.out) (Kd.R_base ho0) hb); have n2_ := Aside0.mk (Kd.R_elder' (by (with_reducible repeat (first | apply Kd.R_alloc | apply Kd.R_drewN | apply Kd.R_drew)); exact HO130.out) (Kd.R_base ho0) hb); have n3_ := Aside0.mk (Kd.R_elder' (by (with_reducible repeat (first | apply Kd.R_alloc | apply Kd.R_drewN | apply Kd.R_drew)); exact HO133.out) (Kd.R_base ho0) hb); have n4_ := Aside0.mk (Kd.R_lower (Kd.R_new' (Kd.R_new' (Kd.R_new' (Kd.R_new' ho0 (Kd.R_lt (by (with_reducible repeat (first | apply Kd.R_alloc | apply Kd.R_drewN | apply Kd.R_drew)); exact HO120.out))) (Kd.R_lt (by (with_reducible repeat (first | apply Kd.R_alloc | apply Kd.R_drewN | apply Kd.R_drew)); exact HO125.out))) (Kd.R_lt (by (with_reducible repeat (first | apply Kd.R_alloc | apply Kd.R_drewN | apply Kd.R_drew)); exact HO130.out))) (Kd.R_lt (by (with_reducible repeat (first | apply Kd.R_alloc | apply Kd.R_drewN | apply Kd.R_drew)); exact HO133.out))) (below_size (by repeat (first | (with_reducible first | exact HB.out | apply below_alloc | apply pw_below_drewN | apply below_drew1) | exact HB.out)))); have n5_ := Aside0.mk (below_step (by repeat (first | (with_reducible first | exact HB.out | apply below_alloc | apply pw_below_drewN | apply below_drew1) | exact HB.out)) hb); clear HO120; clear HO125; clear HO130; clear HO133; clear HB; have HO120 := n0_; have HO125 := n1_; have HO130 := n2_; have HO133 := n3_; have HO137 := n4_; have HB := n5_; clear n0_ n1_ n2_ n3_ n4_ n5_; (try clear hb); (try clear hb2); (try clear hk); (try clear hi); (try clear ho0)) | ((with_reducible refine gate_dst (N := 28) rfl ?_); (try (refine gate_guard (by rfl) ?_; dsimp only)); refine Kd.R_lit k34 _ 34 ?hg (N := 28) ?hd (xs := ([(⟨97, 0, 0⟩ : S34), (⟨0, 3, 1⟩ : S34)] : List (S34))) (inner := [.int .i64 97, .int .i64 0, .int .i64 0, .int .i64 0, .int .i64 3, .int .i64 1]) (ok := fun _ => True) (okp := fun _ => True) ?hr ?hp (fun _ hk => hk) trivial (Below.refl _ _) (Nat.le_refl _) (by simp) ?_; (case hd => rfl); (case hg => rfl); (case hr => first | (go_simp; done) | (go_simp; rfl)); (case hp => exact (Reps.c3 (show Kd.M k34 _ _ _ (⟨97, 0, 0⟩ : S34) [.int .i64 97, .int .i64 0, .int .i64 0] from (k34_mkM _ _ _ (⟨97, 0, 0⟩ : S34) )) (Reps.c3 (show Kd.M k34 _ _ _ (⟨0, 3, 1⟩ : S34) [.int .i64 0, .int .i64 3, .int .i64 1] from (k34_mkM _ _ _ (⟨0, 3, 1⟩ : S34) )) (Reps.none _ _)))); intro v139 w24 ho25 hb hg_ hnew_; clear hg_ hnew_; (first | rw [← Ny138.out] at ho25 | (simp only [Int.reduceToNat] at ho25; rw [← Ny138.out] at ho25)); have n0_ := Aside0.mk (Kd.R_elder' (by (with_reducible repeat (first | apply Kd.R_alloc | apply Kd.R_drewN | apply Kd.R_drew)); exact HO120.out) (Kd.R_base ho25) hb); have n1_ := Aside0.mk (Kd.R_elder' (by (with_reducible repeat (first | apply Kd.R_alloc | apply Kd.R_drewN | apply Kd.R_drew)); exact HO125.out) (Kd.R_base ho25) hb); have n2_ := Aside0.mk (Kd.R_elder' (by (with_reducible repeat (first | apply Kd.R_alloc | apply Kd.R_drewN | apply Kd.R_drew)); exact HO130.out) (Kd.R_base ho25) hb); have n3_ := Aside0.mk (Kd.R_elder' (by (with_reducible repeat (first | apply Kd.R_alloc | apply Kd.R_drewN | apply Kd.R_drew)); exact HO133.out) (Kd.R_base ho25) hb); have n4_ := Aside0.mk (Kd.R_elder' (by (with_reducible repeat (first | apply Kd.R_alloc | apply Kd.R_drewN | apply Kd.R_drew)); exact HO137.out) (Kd.R_base ho25) hb); have n5_ := Aside0.mk (Kd.R_lower (Kd.R_new' (Kd.R_new' (Kd.R_new' (Kd.R_new' (Kd.R_new' ho25 (Kd.R_lt (by (with_reducible repeat (first | apply Kd.R_alloc | apply Kd.R_drewN | apply Kd.R_drew)); exact HO120.out))) (Kd.R_lt (by (with_reducible repeat (first | apply Kd.R_alloc | apply Kd.R_drewN | apply Kd.R_drew)); exact HO125.out))) (Kd.R_lt (by (with_reducible repeat (first | apply Kd.R_alloc | apply Kd.R_drewN | apply Kd.R_drew)); exact HO130.out))) (Kd.R_lt (by (with_reducible repeat (first | apply Kd.R_alloc | apply Kd.R_drewN | apply Kd.R_drew)); exact HO133.out))) (Kd.R_lt (by (with_reducible repeat (first | apply Kd.R_alloc | apply Kd.R_drewN | apply Kd.R_drew)); exact HO137.out))) (below_size (by repeat (first | (with_reducible first | exact HB.out | apply below_alloc | apply pw_below_drewN | apply below_drew1) | exact HB.out)))); have n6_ := Aside0.mk (below_step (by repeat (first | (with_reducible first | exact HB.out | apply below_alloc | apply pw_below_drewN | apply below_drew1) | exact HB.out)) hb); clear HO120; clear HO125; clear HO130; clear HO133; clear HO137; clear HB; have HO120 := n0_; have HO125 := n1_; have HO130 := n2_; have HO133 := n3_; have HO137 := n4_; have HO140 := n5_; have HB := n6_; clear n0_ n1_ n2_ n3_ n4_ n5_ n6_; clear hb ho25; obtain ⟨Ao26, co26, eo26⟩ := Kd.R_slice HO137.out; subst eo26; obtain ⟨Ao27, co27, eo27⟩ := Kd.R_slice HO140.out; subst eo27) | (go_at_call 7; (with_reducible refine (vitrinelaw04_tokens.calls k _ _ t135 _ _ y138 true _ ?side1 ?side2 ?side3 ?side4 A7.out).mono ?_); (case side1 => repeat (first | exact (Kd.R_reads' HO137.out).2.2 | (with_reducible refine Kd.C_alloc ?_ _) | (with_reducible refine Kd.C_drewN ?_ _) | (with_reducible refine Kd.C_drew ?_))); (case side2 => exact (Kd.R_reads' HO137.out).2.1); (case side3 => repeat (first | exact (Kd.R_reads' HO140.out).2.2 | (with_reducible refine Kd.C_alloc ?_ _) | (with_reducible refine Kd.C_drewN ?_ _) | (with_reducible refine Kd.C_drew ?_))); (case side4 => exact (Kd.R_reads' HO140.out).2.1); rintro e w' ⟨rfl, ⟨nd, rfl⟩⟩))
        go_ret
        exact ⟨by first | rfl | (simp [errW_none, errW_some] <;> rfl) | (simp [*, errW_none, errW_some] <;> rfl), by repeat (first | (with_reducible first | exact HB.out | apply below_alloc | apply pw_below_drewN | apply below_drew1) | exact HB.out)⟩
      · rw [if_neg c9] at H
        have c9b0 : (t122 == 15) = false := beq_eq_false_iff_ne.mpr c9
        have c9b1 : (t122 != 15) = true := bne_iff_ne.mpr c9
        obtain rfl := Option.some.inj H
        go_enter Try.func10, Try.ntmps10
        go_wp2_with (first | ((with_reducible refine gate_dst (N := 7) rfl ?_); (try (refine gate_guard (by rfl) ?_; dsimp only)); refine Kd.R_lit k34 _ 34 ?hg (N := 7) ?hd (xs := ([(⟨0, 3, 1⟩ : S34)] : List (S34))) (inner := [.int .i64 0, .int .i64 3, .int .i64 1]) (ok := fun _ => True) (okp := fun _ => True) ?hr ?hp (fun _ hk => hk) trivial (Below.refl _ _) (Nat.le_refl _) (by simp) ?_; (case hd => rfl); (case hg => rfl); (case hr => first | (go_simp; done) | (go_simp; rfl)); (case hp => exact (Reps.c3 (show Kd.M k34 _ _ _ (⟨0, 3, 1⟩ : S34) [.int .i64 0, .int .i64 3, .int .i64 1] from (k34_mkM _ _ _ (⟨0, 3, 1⟩ : S34) )) (Reps.none _ _))); intro v119 w28 ho29 hb hg_ hnew_; clear hg_ hnew_; (first | rw [← Ny118.out] at ho29 | (simp only [Int.reduceToNat] at ho29; rw [← Ny118.out] at ho29)); have n0_ := Aside0.mk (Kd.R_lower ho29 (below_size (by repeat (first | (with_reducible first | exact HB.out | apply below_alloc | apply pw_below_drewN | apply below_drew1) | exact HB.out)))); have n1_ := Aside0.mk (below_step (by repeat (first | (with_reducible first | exact HB.out | apply below_alloc | apply pw_below_drewN | apply below_drew1) | exact HB.out)) hb); clear HB; have HO120 := n0_; have HB := n1_; clear n0_ n1_; clear hb ho29; obtain ⟨Ao30, co30, eo30⟩ := Kd.R_slice HO120.out; subst eo30) | ((with_reducible refine gate_callee (f := 11) rfl ?_); refine goesL_ (some 8) rfl rfl Try.func11 (by kernel_rfl) rfl #[.slice Ao30 y118.length co30] rfl (by (try simp only [List.map_toArray, List.map_cons, List.map_nil]); first | done | rfl | (simp only [List.length_drop, List.length_take]; rfl)) ?_; (with_reducible refine (lz_Expand.calls k _ _ y118 t121 t122 _ ?side1 ?side2 A1.out).mono ?_); (case side1 => repeat (first | exact (Kd.R_reads' HO120.out).2.2 | (with_reducible refine Kd.C_alloc ?_ _) | (with_reducible refine Kd.C_drewN ?_ _) | (with_reducible refine Kd.C_drew ?_))); (case side2 => exact (Kd.R_reads' HO120.out).2.1); rintro e w31 ⟨rfl, hb⟩; refine ⟨_, rfl, ?_⟩; have n0_ := Aside0.mk (Kd.R_below (by (with_reducible repeat (first | apply Kd.R_alloc | apply Kd.R_drewN | apply Kd.R_drew)); exact HO120.out) hb); have n1_ := Aside0.mk (below_step (by repeat (first | (with_reducible first | exact HB.out | apply below_alloc | apply pw_below_drewN | apply below_drew1) | exact HB.out)) hb); clear HO120; clear HB; have HO120 := n0_; have HB := n1_; clear n0_ n1_; (try clear hb); (try clear hb2); (try clear hk); (try clear hi)) | ((with_reducible refine gate_dst (N := 13) rfl ?_); (try (refine gate_guard (by rfl) ?_; dsimp only)); refine Kd.R_lit k34 _ 34 ?hg (N := 13) ?hd (xs := ([(⟨0, 2, 1⟩ : S34)] : List (S34))) (inner := [.int .i64 0, .int .i64 2, .int .i64 1]) (ok := fun _ => True) (okp := fun _ => True) ?hr ?hp (fun _ hk => hk) trivial (Below.refl _ _) (Nat.le_refl _) (by simp) ?_; (case hd => rfl); (case hg => rfl); (case hr => first | (go_simp; done) | (go_simp; rfl)); (case hp => exact (Reps.c3 (show Kd.M k34 _ _ _ (⟨0, 2, 1⟩ : S34) [.int .i64 0, .int .i64 2, .int .i64 1] from (k34_mkM _ _ _ (⟨0, 2, 1⟩ : S34) )) (Reps.none _ _))); intro v124 w32 ho33 hb hg_ hnew_; clear hg_ hnew_; (first | rw [← Ny123.out] at ho33 | (simp only [Int.reduceToNat] at ho33; rw [← Ny123.out] at ho33)); have n0_ := Aside0.mk (Kd.R_elder' (by (with_reducible repeat (first | apply Kd.R_alloc | apply Kd.R_drewN | apply Kd.R_drew)); exact HO120.out) (Kd.R_base ho33) hb); have n1_ := Aside0.mk (Kd.R_lower (Kd.R_new' ho33 (Kd.R_lt (by (with_reducible repeat (first | apply Kd.R_alloc | apply Kd.R_drewN | apply Kd.R_drew)); exact HO120.out))) (below_size (by repeat (first | (with_reducible first | exact HB.out | apply below_alloc | apply pw_below_drewN | apply below_drew1) | exact HB.out)))); have n2_ := Aside0.mk (below_step (by repeat (first | (with_reducible first | exact HB.out | apply below_alloc | apply pw_below_drewN | apply below_drew1) | exact HB.out)) hb); clear HO120; clear HB; have HO120 := n0_; have HO125 := n1_; have HB := n2_; clear n0_ n1_ n2_; clear hb ho33; obtain ⟨Ao34, co34, eo34⟩ := Kd.R_slice HO125.out; subst eo34) | ((with_reducible refine gate_callee (f := 11) rfl ?_); refine goesL_ (some 14) rfl rfl Try.func11 (by kernel_rfl) rfl #[.slice Ao34 y123.length co34] rfl (by (try simp only [List.map_toArray, List.map_cons, List.map_nil]); first | done | rfl | (simp only [List.length_drop, List.length_take]; rfl)) ?_; (with_reducible refine (lz_Expand.calls k _ _ y123 t126 t127 _ ?side1 ?side2 A2.out).mono ?_); (case side1 => repeat (first | exact (Kd.R_reads' HO125.out).2.2 | (with_reducible refine Kd.C_alloc ?_ _) | (with_reducible refine Kd.C_drewN ?_ _) | (with_reducible refine Kd.C_drew ?_))); (case side2 => exact (Kd.R_reads' HO125.out).2.1); rintro e w35 ⟨rfl, hb⟩; refine ⟨_, rfl, ?_⟩; have n0_ := Aside0.mk (Kd.R_below (by (with_reducible repeat (first | apply Kd.R_alloc | apply Kd.R_drewN | apply Kd.R_drew)); exact HO120.out) hb); have n1_ := Aside0.mk (Kd.R_below (by (with_reducible repeat (first | apply Kd.R_alloc | apply Kd.R_drewN | apply Kd.R_drew)); exact HO125.out) hb); have n2_ := Aside0.mk (below_step (by repeat (first | (with_reducible first | exact HB.out | apply below_alloc | apply pw_below_drewN | apply below_drew1) | exact HB.out)) hb); clear HO120; clear HO125; clear HB; have HO120 := n0_; have HO125 := n1_; have HB := n2_; clear n0_ n1_ n2_; (try clear hb); (try clear hb2); (try clear hk); (try clear hi)) | ((with_reducible refine gate_callee (f := 8) rfl ?_); refine goesL_ (some 17) rfl rfl Try.func8 (by kernel_rfl) rfl #[.string (⟨#[97, 98, 99, 97, 98, 99, 97, 98]⟩ : ByteArray)] rfl (by (try simp only [List.map_toArray, List.map_cons, List.map_nil]); first | done | rfl | (simp only [List.length_drop, List.length_take]; rfl)) ?_; (with_reducible refine (lz_Tokens.calls (⟨#[97, 98, 99, 97, 98, 99, 97, 98]⟩ : ByteArray) t128 _ A3.out).mono ?_); rintro e w36 ⟨v129, rfl, ho0, hb⟩; refine ⟨_, rfl, ?_⟩; have n0_ := Aside0.mk (Kd.R_elder' (by (with_reducible repeat (first | apply Kd.R_alloc | apply Kd.R_drewN | apply Kd.R_drew)); exact HO120.out) (Kd.R_base ho0) hb); have n1_ := Aside0.mk (Kd.R_elder' (by (with_reducible repeat (first | apply Kd.R_alloc | apply Kd.R_drewN | apply Kd.R_drew)); exact HO125.out) (Kd.R_base ho0) hb); have n2_ := Aside0.mk (Kd.R_lower (Kd.R_new' (Kd.R_new' ho0 (Kd.R_lt (by (with_reducible repeat (first | apply Kd.R_alloc | apply Kd.R_drewN | apply Kd.R_drew)); exact HO120.out))) (Kd.R_lt (by (with_reducible repeat (first | apply Kd.R_alloc | apply Kd.R_drewN | apply Kd.R_drew)); exact HO125.out))) (below_size (by repeat (first | (with_reducible first | exact HB.out | apply below_alloc | apply pw_below_drewN | apply below_drew1) | exact HB.out)))); have n3_ := Aside0.mk (below_step (by repeat (first | (with_reducible first | exact HB.out | apply below_alloc | apply pw_below_drewN | apply below_drew1) | exact HB.out)) hb); clear HO120; clear HO125; clear HB; have HO120 := n0_; have HO125 := n1_; have HO130 := n2_; have HB := n3_; clear n0_ n1_ n2_ n3_; (try clear hb); (try clear hb2); (try clear hk); (try clear hi); (try clear ho0)) | ((with_reducible refine gate_dst (N := 22) rfl ?_); (try (refine gate_guard (by rfl) ?_; dsimp only)); refine Kd.R_lit k34 _ 34 ?hg (N := 22) ?hd (xs := ([(⟨97, 0, 0⟩ : S34), (⟨98, 0, 0⟩ : S34), (⟨99, 0, 0⟩ : S34), (⟨0, 5, 3⟩ : S34)] : List (S34))) (inner := [.int .i64 97, .int .i64 0, .int .i64 0, .int .i64 98, .int .i64 0, .int .i64 0, .int .i64 99, .int .i64 0, .int .i64 0, .int .i64 0, .int .i64 5, .int .i64 3]) (ok := fun _ => True) (okp := fun _ => True) ?hr ?hp (fun _ hk => hk) trivial (Below.refl _ _) (Nat.le_refl _) (by simp) ?_; (case hd => rfl); (case hg => rfl); (case hr => first | (go_simp; done) | (go_simp; rfl)); (case hp => exact (Reps.c3 (show Kd.M k34 _ _ _ (⟨97, 0, 0⟩ : S34) [.int .i64 97, .int .i64 0, .int .i64 0] from (k34_mkM _ _ _ (⟨97, 0, 0⟩ : S34) )) (Reps.c3 (show Kd.M k34 _ _ _ (⟨98, 0, 0⟩ : S34) [.int .i64 98, .int .i64 0, .int .i64 0] from (k34_mkM _ _ _ (⟨98, 0, 0⟩ : S34) )) (Reps.c3 (show Kd.M k34 _ _ _ (⟨99, 0, 0⟩ : S34) [.int .i64 99, .int .i64 0, .int .i64 0] from (k34_mkM _ _ _ (⟨99, 0, 0⟩ : S34) )) (Reps.c3 (show Kd.M k34 _ _ _ (⟨0, 5, 3⟩ : S34) [.int .i64 0, .int .i64 5, .int .i64 3] from (k34_mkM _ _ _ (⟨0, 5, 3⟩ : S34) )) (Reps.none _ _)))))); intro v132 w37 ho38 hb hg_ hnew_; clear hg_ hnew_; (first | rw [← Ny131.out] at ho38 | (simp only [Int.reduceToNat] at ho38; rw [← Ny131.out] at ho38)); have n0_ := Aside0.mk (Kd.R_elder' (by (with_reducible repeat (first | apply Kd.R_alloc | apply Kd.R_drewN | apply Kd.R_drew)); exact HO120.out) (Kd.R_base ho38) hb); have n1_ := Aside0.mk (Kd.R_elder' (by (with_reducible repeat (first | apply Kd.R_alloc | apply Kd.R_drewN | apply Kd.R_drew)); exact HO125.out) (Kd.R_base ho38) hb); have n2_ := Aside0.mk (Kd.R_elder' (by (with_reducible repeat (first | apply Kd.R_alloc | apply Kd.R_drewN | apply Kd.R_drew)); exact HO130.out) (Kd.R_base ho38) hb); have n3_ := Aside0.mk (Kd.R_lower (Kd.R_new' (Kd.R_new' (Kd.R_new' ho38 (Kd.R_lt (by (with_reducible repeat (first | apply Kd.R_alloc | apply Kd.R_drewN | apply Kd.R_drew)); exact HO120.out))) (Kd.R_lt (by (with_reducible repeat (first | apply Kd.R_alloc | apply Kd.R_drewN | apply Kd.R_drew)); exact HO125.out))) (Kd.R_lt (by (with_reducible repeat (first | apply Kd.R_alloc | apply Kd.R_drewN | apply Kd.R_drew)); exact HO130.out))) (below_size (by repeat (first | (with_reducible first | exact HB.out | apply below_alloc | apply pw_below_drewN | apply below_drew1) | exact HB.out)))); have n4_ := Aside0.mk (below_step (by repeat (first | (with_reducible first | exact HB.out | apply below_alloc | apply pw_below_drewN | apply below_drew1) | exact HB.out)) hb); clear HO120; clear HO125; clear HO130; clear HB; have HO120 := n0_; have HO125 := n1_; have HO130 := n2_; have HO133 := n3_; have HB := n4_; clear n0_ n1_ n2_ n3_ n4_; clear hb ho38; obtain ⟨Ao39, co39, eo39⟩ := Kd.R_slice HO130.out; subst eo39; obtain ⟨Ao40, co40, eo40⟩ := Kd.R_slice HO133.out; subst eo40) | ((with_reducible refine gate_callee (f := 7) rfl ?_); refine goesL_ (some 23) rfl rfl Try.func7 (by kernel_rfl) rfl #[.slice Ao39 t128.length co39, .slice Ao40 y131.length co40] rfl (by (try simp only [List.map_toArray, List.map_cons, List.map_nil]); first | done | rfl | (simp only [List.length_drop, List.length_take]; rfl)) ?_; (with_reducible refine (vitrinelaw04_tokens.calls k _ _ t128 _ _ y131 true _ ?side1 ?side2 ?side3 ?side4 A4.out).mono ?_); (case side1 => repeat (first | exact (Kd.R_reads' HO130.out).2.2 | (with_reducible refine Kd.C_alloc ?_ _) | (with_reducible refine Kd.C_drewN ?_ _) | (with_reducible refine Kd.C_drew ?_))); (case side2 => exact (Kd.R_reads' HO130.out).2.1); (case side3 => repeat (first | exact (Kd.R_reads' HO133.out).2.2 | (with_reducible refine Kd.C_alloc ?_ _) | (with_reducible refine Kd.C_drewN ?_ _) | (with_reducible refine Kd.C_drew ?_))); (case side4 => exact (Kd.R_reads' HO133.out).2.1); rintro e w' ⟨rfl, ⟨nd, rfl⟩⟩; refine ⟨_, rfl, ?_⟩) | (go_at_call 8; (with_reducible refine (lz_Tokens.calls (⟨#[97, 97, 97, 97]⟩ : ByteArray) t135 _ A6.out).mono ?_); rintro e w41 ⟨v136, rfl, ho0, hb⟩; have n0_ := Aside0.mk (Kd.R_elder' (by (with_reducible repeat (first | apply Kd.R_alloc | apply Kd.R_drewN | apply Kd.R_drew)); exact HO120.out) (Kd.R_base ho0) hb); have n1_ := Aside0.mk (Kd.R_elder' (by (with_reducible repeat (first | apply Kd.R_alloc | apply Kd.R_drewN | apply Kd.R_drew)); exact HO125.out) (Kd.R_base ho0) hb); have n2_ := Aside0.mk (Kd.R_elder' (by (with_reducible repeat (first | apply Kd.R_alloc | apply Kd.R_drewN | apply Kd.R_drew)); exact HO130.out) (Kd.R_base ho0) hb); have n3_ := Aside0.mk (Kd.R_elder' (by (with_reducible repeat (first | apply Kd.R_alloc | apply Kd.R_drewN | apply Kd.R_drew)); exact HO133.out) (Kd.R_base ho0) hb); have n4_ := Aside0.mk (Kd.R_lower (Kd.R_new' (Kd.R_new' (Kd.R_new' (Kd.R_new' ho0 (Kd.R_lt (by (with_reducible repeat (first | apply Kd.R_alloc | apply Kd.R_drewN | apply Kd.R_drew)); exact HO120.out))) (Kd.R_lt (by (with_reducible repeat (first | apply Kd.R_alloc | apply Kd.R_drewN | apply Kd.R_drew)); exact HO125.out))) (Kd.R_lt (by (with_reducible repeat (first | apply Kd.R_alloc | apply Kd.R_drewN | apply Kd.R_drew)); exact HO130.out))) (Kd.R_lt (by (with_reducible repeat (first | apply Kd.R_alloc | apply Kd.R_drewN | apply Kd.R_drew)); exact HO133.out))) (below_size (by repeat (first | (with_reducible first | exact HB.out | apply below_alloc | apply pw_below_drewN | apply below_drew1) | exact HB.out)))); have n5_ := Aside0.mk (below_step (by repeat (first | (with_reducible first | exact HB.out | apply below_alloc | apply pw_below_drewN | apply below_drew1) | exact HB.out)) hb); clear HO120; clear HO125; clear HO130; clear HO133; clear HB; have HO120 := n0_; have HO125 := n1_; have HO130 := n2_; have HO133 := n3_; have HO137 := n4_; have HB := n5_; clear n0_ n1_ n2_ n3_ n4_ n5_; (try clear hb); (try clear hb2); (try clear hk); (try clear hi); (try clear ho0)) | ((with_reducible refine gate_dst (N := 28) rfl ?_); (try (refine gate_guard (by rfl) ?_; dsimp only)); refine Kd.R_lit k34 _ 34 ?hg (N := 28) ?hd (xs := ([(⟨97, 0, 0⟩ : S34), (⟨0, 3, 1⟩ : S34)] : List (S34))) (inner := [.int .i64 97, .int .i64 0, .int .i64 0, .int .i64 0, .int .i64 3, .int .i64 1]) (ok := fun _ => True) (okp := fun _ => True) ?hr ?hp (fun _ hk => hk) trivial (Below.refl _ _) (Nat.le_refl _) (by simp) ?_; (case hd => rfl); (case hg => rfl); (case hr => first | (go_simp; done) | (go_simp; rfl)); (case hp => exact (Reps.c3 (show Kd.M k34 _ _ _ (⟨97, 0, 0⟩ : S34) [.int .i64 97, .int .i64 0, .int .i64 0] from (k34_mkM _ _ _ (⟨97, 0, 0⟩ : S34) )) (Reps.c3 (show Kd.M k34 _ _ _ (⟨0, 3, 1⟩ : S34) [.int .i64 0, .int .i64 3, .int .i64 1] from (k34_mkM _ _ _ (⟨0, 3, 1⟩ : S34) )) (Reps.none _ _)))); intro v139 w42 ho43 hb hg_ hnew_; clear hg_ hnew_; (first | rw [← Ny138.out] at ho43 | (simp only [Int.reduceToNat] at ho43; rw [← Ny138.out] at ho43)); have n0_ := Aside0.mk (Kd.R_elder' (by (with_reducible repeat (first | apply Kd.R_alloc | apply Kd.R_drewN | apply Kd.R_drew)); exact HO120.out) (Kd.R_base ho43) hb); have n1_ := Aside0.mk (Kd.R_elder' (by (with_reducible repeat (first | apply Kd.R_alloc | apply Kd.R_drewN | apply Kd.R_drew)); exact HO125.out) (Kd.R_base ho43) hb); have n2_ := Aside0.mk (Kd.R_elder' (by (with_reducible repeat (first | apply Kd.R_alloc | apply Kd.R_drewN | apply Kd.R_drew)); exact HO130.out) (Kd.R_base ho43) hb); have n3_ := Aside0.mk (Kd.R_elder' (by (with_reducible repeat (first | apply Kd.R_alloc | apply Kd.R_drewN | apply Kd.R_drew)); exact HO133.out) (Kd.R_base ho43) hb); have n4_ := Aside0.mk (Kd.R_elder' (by (with_reducible repeat (first | apply Kd.R_alloc | apply Kd.R_drewN | apply Kd.R_drew)); exact HO137.out) (Kd.R_base ho43) hb); have n5_ := Aside0.mk (Kd.R_lower (Kd.R_new' (Kd.R_new' (Kd.R_new' (Kd.R_new' (Kd.R_new' ho43 (Kd.R_lt (by (with_reducible repeat (first | apply Kd.R_alloc | apply Kd.R_drewN | apply Kd.R_drew)); exact HO120.out))) (Kd.R_lt (by (with_reducible repeat (first | apply Kd.R_alloc | apply Kd.R_drewN | apply Kd.R_drew)); exact HO125.out))) (Kd.R_lt (by (with_reducible repeat (first | apply Kd.R_alloc | apply Kd.R_drewN | apply Kd.R_drew)); exact HO130.out))) (Kd.R_lt (by (with_reducible repeat (first | apply Kd.R_alloc | apply Kd.R_drewN | apply Kd.R_drew)); exact HO133.out))) (Kd.R_lt (by (with_reducible repeat (first | apply Kd.R_alloc | apply Kd.R_drewN | apply Kd.R_drew)); exact HO137.out))) (below_size (by repeat (first | (with_reducible first | exact HB.out | apply below_alloc | apply pw_below_drewN | apply below_drew1) | exact HB.out)))); have n6_ := Aside0.mk (below_step (by repeat (first | (with_reducible first | exact HB.out | apply below_alloc | apply pw_below_drewN | apply below_drew1) | exact HB.out)) hb); clear HO120; clear HO125; clear HO130; clear HO133; clear HO137; clear HB; have HO120 := n0_; have HO125 := n1_; have HO130 := n2_; have HO133 := n3_; have HO137 := n4_; have HO140 := n5_; have HB := n6_; clear n0_ n1_ n2_ n3_ n4_ n5_ n6_; clear hb ho43; obtain ⟨Ao44, co44, eo44⟩ := Kd.R_slice HO137.out; subst eo44; obtain ⟨Ao45, co45, eo45⟩ := Kd.R_slice HO140.out; subst eo45) | (go_at_call 7; (with_reducible refine (vitrinelaw04_tokens.calls k _ _ t135 _ _ y138 true _ ?side1 ?side2 ?side3 ?side4 A7.out).mono ?_); (case side1 => repeat (first | exact (Kd.R_reads' HO137.out).2.2 | (with_reducible refine Kd.C_alloc ?_ _) | (with_reducible refine Kd.C_drewN ?_ _) | (with_reducible refine Kd.C_drew ?_))); (case side2 => exact (Kd.R_reads' HO137.out).2.1); (case side3 => repeat (first | exact (Kd.R_reads' HO140.out).2.2 | (with_reducible refine Kd.C_alloc ?_ _) | (with_reducible refine Kd.C_drewN ?_ _) | (with_reducible refine Kd.C_drew ?_))); (case side4 => exact (Kd.R_reads' HO140.out).2.1); rintro e w' ⟨rfl, ⟨nd, rfl⟩⟩))
        go_ret
        exact ⟨by first | rfl | (simp [errW_none, errW_some] <;> rfl) | (simp [*, errW_none, errW_some] <;> rfl), by repeat (first | (with_reducible first | exact HB.out | apply below_alloc | apply pw_below_drewN | apply below_drew1) | exact HB.out)⟩
    · replace c8 := Bool.eq_false_iff.mpr c8
      subst c8
      have H1 : (some false) = some r := by rw [if_neg (show ¬ (false = true) by decide)] at H; exact H
      clear H
      have H := H1
      clear H1
      obtain rfl := Option.some.inj H
      go_enter Try.func10, Try.ntmps10
      go_wp2_with (first | ((with_reducible refine gate_dst (N := 7) rfl ?_); (try (refine gate_guard (by rfl) ?_; dsimp only)); refine Kd.R_lit k34 _ 34 ?hg (N := 7) ?hd (xs := ([(⟨0, 3, 1⟩ : S34)] : List (S34))) (inner := [.int .i64 0, .int .i64 3, .int .i64 1]) (ok := fun _ => True) (okp := fun _ => True) ?hr ?hp (fun _ hk => hk) trivial (Below.refl _ _) (Nat.le_refl _) (by simp) ?_; (case hd => rfl); (case hg => rfl); (case hr => first | (go_simp; done) | (go_simp; rfl)); (case hp => exact (Reps.c3 (show Kd.M k34 _ _ _ (⟨0, 3, 1⟩ : S34) [.int .i64 0, .int .i64 3, .int .i64 1] from (k34_mkM _ _ _ (⟨0, 3, 1⟩ : S34) )) (Reps.none _ _))); intro v119 w46 ho47 hb hg_ hnew_; clear hg_ hnew_; (first | rw [← Ny118.out] at ho47 | (simp only [Int.reduceToNat] at ho47; rw [← Ny118.out] at ho47)); have n0_ := Aside0.mk (Kd.R_lower ho47 (below_size (by repeat (first | (with_reducible first | exact HB.out | apply below_alloc | apply pw_below_drewN | apply below_drew1) | exact HB.out)))); have n1_ := Aside0.mk (below_step (by repeat (first | (with_reducible first | exact HB.out | apply below_alloc | apply pw_below_drewN | apply below_drew1) | exact HB.out)) hb); clear HB; have HO120 := n0_; have HB := n1_; clear n0_ n1_; clear hb ho47; obtain ⟨Ao48, co48, eo48⟩ := Kd.R_slice HO120.out; subst eo48) | ((with_reducible refine gate_callee (f := 11) rfl ?_); refine goesL_ (some 8) rfl rfl Try.func11 (by kernel_rfl) rfl #[.slice Ao48 y118.length co48] rfl (by (try simp only [List.map_toArray, List.map_cons, List.map_nil]); first | done | rfl | (simp only [List.length_drop, List.length_take]; rfl)) ?_; (with_reducible refine (lz_Expand.calls k _ _ y118 t121 t122 _ ?side1 ?side2 A1.out).mono ?_); (case side1 => repeat (first | exact (Kd.R_reads' HO120.out).2.2 | (with_reducible refine Kd.C_alloc ?_ _) | (with_reducible refine Kd.C_drewN ?_ _) | (with_reducible refine Kd.C_drew ?_))); (case side2 => exact (Kd.R_reads' HO120.out).2.1); rintro e w49 ⟨rfl, hb⟩; refine ⟨_, rfl, ?_⟩; have n0_ := Aside0.mk (Kd.R_below (by (with_reducible repeat (first | apply Kd.R_alloc | apply Kd.R_drewN | apply Kd.R_drew)); exact HO120.out) hb); have n1_ := Aside0.mk (below_step (by repeat (first | (with_reducible first | exact HB.out | apply below_alloc | apply pw_below_drewN | apply below_drew1) | exact HB.out)) hb); clear HO120; clear HB; have HO120 := n0_; have HB := n1_; clear n0_ n1_; (try clear hb); (try clear hb2); (try clear hk); (try clear hi)) | ((with_reducible refine gate_dst (N := 13) rfl ?_); (try (refine gate_guard (by rfl) ?_; dsimp only)); refine Kd.R_lit k34 _ 34 ?hg (N := 13) ?hd (xs := ([(⟨0, 2, 1⟩ : S34)] : List (S34))) (inner := [.int .i64 0, .int .i64 2, .int .i64 1]) (ok := fun _ => True) (okp := fun _ => True) ?hr ?hp (fun _ hk => hk) trivial (Below.refl _ _) (Nat.le_refl _) (by simp) ?_; (case hd => rfl); (case hg => rfl); (case hr => first | (go_simp; done) | (go_simp; rfl)); (case hp => exact (Reps.c3 (show Kd.M k34 _ _ _ (⟨0, 2, 1⟩ : S34) [.int .i64 0, .int .i64 2, .int .i64 1] from (k34_mkM _ _ _ (⟨0, 2, 1⟩ : S34) )) (Reps.none _ _))); intro v124 w50 ho51 hb hg_ hnew_; clear hg_ hnew_; (first | rw [← Ny123.out] at ho51 | (simp only [Int.reduceToNat] at ho51; rw [← Ny123.out] at ho51)); have n0_ := Aside0.mk (Kd.R_elder' (by (with_reducible repeat (first | apply Kd.R_alloc | apply Kd.R_drewN | apply Kd.R_drew)); exact HO120.out) (Kd.R_base ho51) hb); have n1_ := Aside0.mk (Kd.R_lower (Kd.R_new' ho51 (Kd.R_lt (by (with_reducible repeat (first | apply Kd.R_alloc | apply Kd.R_drewN | apply Kd.R_drew)); exact HO120.out))) (below_size (by repeat (first | (with_reducible first | exact HB.out | apply below_alloc | apply pw_below_drewN | apply below_drew1) | exact HB.out)))); have n2_ := Aside0.mk (below_step (by repeat (first | (with_reducible first | exact HB.out | apply below_alloc | apply pw_below_drewN | apply below_drew1) | exact HB.out)) hb); clear HO120; clear HB; have HO120 := n0_; have HO125 := n1_; have HB := n2_; clear n0_ n1_ n2_; clear hb ho51; obtain ⟨Ao52, co52, eo52⟩ := Kd.R_slice HO125.out; subst eo52) | ((with_reducible refine gate_callee (f := 11) rfl ?_); refine goesL_ (some 14) rfl rfl Try.func11 (by kernel_rfl) rfl #[.slice Ao52 y123.length co52] rfl (by (try simp only [List.map_toArray, List.map_cons, List.map_nil]); first | done | rfl | (simp only [List.length_drop, List.length_take]; rfl)) ?_; (with_reducible refine (lz_Expand.calls k _ _ y123 t126 t127 _ ?side1 ?side2 A2.out).mono ?_); (case side1 => repeat (first | exact (Kd.R_reads' HO125.out).2.2 | (with_reducible refine Kd.C_alloc ?_ _) | (with_reducible refine Kd.C_drewN ?_ _) | (with_reducible refine Kd.C_drew ?_))); (case side2 => exact (Kd.R_reads' HO125.out).2.1); rintro e w53 ⟨rfl, hb⟩; refine ⟨_, rfl, ?_⟩; have n0_ := Aside0.mk (Kd.R_below (by (with_reducible repeat (first | apply Kd.R_alloc | apply Kd.R_drewN | apply Kd.R_drew)); exact HO120.out) hb); have n1_ := Aside0.mk (Kd.R_below (by (with_reducible repeat (first | apply Kd.R_alloc | apply Kd.R_drewN | apply Kd.R_drew)); exact HO125.out) hb); have n2_ := Aside0.mk (below_step (by repeat (first | (with_reducible first | exact HB.out | apply below_alloc | apply pw_below_drewN | apply below_drew1) | exact HB.out)) hb); clear HO120; clear HO125; clear HB; have HO120 := n0_; have HO125 := n1_; have HB := n2_; clear n0_ n1_ n2_; (try clear hb); (try clear hb2); (try clear hk); (try clear hi)) | ((with_reducible refine gate_callee (f := 8) rfl ?_); refine goesL_ (some 17) rfl rfl Try.func8 (by kernel_rfl) rfl #[.string (⟨#[97, 98, 99, 97, 98, 99, 97, 98]⟩ : ByteArray)] rfl (by (try simp only [List.map_toArray, List.map_cons, List.map_nil]); first | done | rfl | (simp only [List.length_drop, List.length_take]; rfl)) ?_; (with_reducible refine (lz_Tokens.calls (⟨#[97, 98, 99, 97, 98, 99, 97, 98]⟩ : ByteArray) t128 _ A3.out).mono ?_); rintro e w54 ⟨v129, rfl, ho0, hb⟩; refine ⟨_, rfl, ?_⟩; have n0_ := Aside0.mk (Kd.R_elder' (by (with_reducible repeat (first | apply Kd.R_alloc | apply Kd.R_drewN | apply Kd.R_drew)); exact HO120.out) (Kd.R_base ho0) hb); have n1_ := Aside0.mk (Kd.R_elder' (by (with_reducible repeat (first | apply Kd.R_alloc | apply Kd.R_drewN | apply Kd.R_drew)); exact HO125.out) (Kd.R_base ho0) hb); have n2_ := Aside0.mk (Kd.R_lower (Kd.R_new' (Kd.R_new' ho0 (Kd.R_lt (by (with_reducible repeat (first | apply Kd.R_alloc | apply Kd.R_drewN | apply Kd.R_drew)); exact HO120.out))) (Kd.R_lt (by (with_reducible repeat (first | apply Kd.R_alloc | apply Kd.R_drewN | apply Kd.R_drew)); exact HO125.out))) (below_size (by repeat (first | (with_reducible first | exact HB.out | apply below_alloc | apply pw_below_drewN | apply below_drew1) | exact HB.out)))); have n3_ := Aside0.mk (below_step (by repeat (first | (with_reducible first | exact HB.out | apply below_alloc | apply pw_below_drewN | apply below_drew1) | exact HB.out)) hb); clear HO120; clear HO125; clear HB; have HO120 := n0_; have HO125 := n1_; have HO130 := n2_; have HB := n3_; clear n0_ n1_ n2_ n3_; (try clear hb); (try clear hb2); (try clear hk); (try clear hi); (try clear ho0)) | ((with_reducible refine gate_dst (N := 22) rfl ?_); (try (refine gate_guard (by rfl) ?_; dsimp only)); refine Kd.R_lit k34 _ 34 ?hg (N := 22) ?hd (xs := ([(⟨97, 0, 0⟩ : S34), (⟨98, 0, 0⟩ : S34), (⟨99, 0, 0⟩ : S34), (⟨0, 5, 3⟩ : S34)] : List (S34))) (inner := [.int .i64 97, .int .i64 0, .int .i64 0, .int .i64 98, .int .i64 0, .int .i64 0, .int .i64 99, .int .i64 0, .int .i64 0, .int .i64 0, .int .i64 5, .int .i64 3]) (ok := fun _ => True) (okp := fun _ => True) ?hr ?hp (fun _ hk => hk) trivial (Below.refl _ _) (Nat.le_refl _) (by simp) ?_; (case hd => rfl); (case hg => rfl); (case hr => first | (go_simp; done) | (go_simp; rfl)); (case hp => exact (Reps.c3 (show Kd.M k34 _ _ _ (⟨97, 0, 0⟩ : S34) [.int .i64 97, .int .i64 0, .int .i64 0] from (k34_mkM _ _ _ (⟨97, 0, 0⟩ : S34) )) (Reps.c3 (show Kd.M k34 _ _ _ (⟨98, 0, 0⟩ : S34) [.int .i64 98, .int .i64 0, .int .i64 0] from (k34_mkM _ _ _ (⟨98, 0, 0⟩ : S34) )) (Reps.c3 (show Kd.M k34 _ _ _ (⟨99, 0, 0⟩ : S34) [.int .i64 99, .int .i64 0, .int .i64 0] from (k34_mkM _ _ _ (⟨99, 0, 0⟩ : S34) )) (Reps.c3 (show Kd.M k34 _ _ _ (⟨0, 5, 3⟩ : S34) [.int .i64 0, .int .i64 5, .int .i64 3] from (k34_mkM _ _ _ (⟨0, 5, 3⟩ : S34) )) (Reps.none _ _)))))); intro v132 w55 ho56 hb hg_ hnew_; clear hg_ hnew_; (first | rw [← Ny131.out] at ho56 | (simp only [Int.reduceToNat] at ho56; rw [← Ny131.out] at ho56)); have n0_ := Aside0.mk (Kd.R_elder' (by (with_reducible repeat (first | apply Kd.R_alloc | apply Kd.R_drewN | apply Kd.R_drew)); exact HO120.out) (Kd.R_base ho56) hb); have n1_ := Aside0.mk (Kd.R_elder' (by (with_reducible repeat (first | apply Kd.R_alloc | apply Kd.R_drewN | apply Kd.R_drew)); exact HO125.out) (Kd.R_base ho56) hb); have n2_ := Aside0.mk (Kd.R_elder' (by (with_reducible repeat (first | apply Kd.R_alloc | apply Kd.R_drewN | apply Kd.R_drew)); exact HO130.out) (Kd.R_base ho56) hb); have n3_ := Aside0.mk (Kd.R_lower (Kd.R_new' (Kd.R_new' (Kd.R_new' ho56 (Kd.R_lt (by (with_reducible repeat (first | apply Kd.R_alloc | apply Kd.R_drewN | apply Kd.R_drew)); exact HO120.out))) (Kd.R_lt (by (with_reducible repeat (first | apply Kd.R_alloc | apply Kd.R_drewN | apply Kd.R_drew)); exact HO125.out))) (Kd.R_lt (by (with_reducible repeat (first | apply Kd.R_alloc | apply Kd.R_drewN | apply Kd.R_drew)); exact HO130.out))) (below_size (by repeat (first | (with_reducible first | exact HB.out | apply below_alloc | apply pw_below_drewN | apply below_drew1) | exact HB.out)))); have n4_ := Aside0.mk (below_step (by repeat (first | (with_reducible first | exact HB.out | apply below_alloc | apply pw_below_drewN | apply below_drew1) | exact HB.out)) hb); clear HO120; clear HO125; clear HO130; clear HB; have HO120 := n0_; have HO125 := n1_; have HO130 := n2_; have HO133 := n3_; have HB := n4_; clear n0_ n1_ n2_ n3_ n4_; clear hb ho56; obtain ⟨Ao57, co57, eo57⟩ := Kd.R_slice HO130.out; subst eo57; obtain ⟨Ao58, co58, eo58⟩ := Kd.R_slice HO133.out; subst eo58) | ((with_reducible refine gate_callee (f := 7) rfl ?_); refine goesL_ (some 23) rfl rfl Try.func7 (by kernel_rfl) rfl #[.slice Ao57 t128.length co57, .slice Ao58 y131.length co58] rfl (by (try simp only [List.map_toArray, List.map_cons, List.map_nil]); first | done | rfl | (simp only [List.length_drop, List.length_take]; rfl)) ?_; (with_reducible refine (vitrinelaw04_tokens.calls k _ _ t128 _ _ y131 true _ ?side1 ?side2 ?side3 ?side4 A4.out).mono ?_); (case side1 => repeat (first | exact (Kd.R_reads' HO130.out).2.2 | (with_reducible refine Kd.C_alloc ?_ _) | (with_reducible refine Kd.C_drewN ?_ _) | (with_reducible refine Kd.C_drew ?_))); (case side2 => exact (Kd.R_reads' HO130.out).2.1); (case side3 => repeat (first | exact (Kd.R_reads' HO133.out).2.2 | (with_reducible refine Kd.C_alloc ?_ _) | (with_reducible refine Kd.C_drewN ?_ _) | (with_reducible refine Kd.C_drew ?_))); (case side4 => exact (Kd.R_reads' HO133.out).2.1); rintro e w' ⟨rfl, ⟨nd, rfl⟩⟩; refine ⟨_, rfl, ?_⟩) | (go_at_call 8; (with_reducible refine (lz_Tokens.calls (⟨#[97, 97, 97, 97]⟩ : ByteArray) t135 _ A6.out).mono ?_); rintro e w59 ⟨v136, rfl, ho0, hb⟩; have n0_ := Aside0.mk (Kd.R_elder' (by (with_reducible repeat (first | apply Kd.R_alloc | apply Kd.R_drewN | apply Kd.R_drew)); exact HO120.out) (Kd.R_base ho0) hb); have n1_ := Aside0.mk (Kd.R_elder' (by (with_reducible repeat (first | apply Kd.R_alloc | apply Kd.R_drewN | apply Kd.R_drew)); exact HO125.out) (Kd.R_base ho0) hb); have n2_ := Aside0.mk (Kd.R_elder' (by (with_reducible repeat (first | apply Kd.R_alloc | apply Kd.R_drewN | apply Kd.R_drew)); exact HO130.out) (Kd.R_base ho0) hb); have n3_ := Aside0.mk (Kd.R_elder' (by (with_reducible repeat (first | apply Kd.R_alloc | apply Kd.R_drewN | apply Kd.R_drew)); exact HO133.out) (Kd.R_base ho0) hb); have n4_ := Aside0.mk (Kd.R_lower (Kd.R_new' (Kd.R_new' (Kd.R_new' (Kd.R_new' ho0 (Kd.R_lt (by (with_reducible repeat (first | apply Kd.R_alloc | apply Kd.R_drewN | apply Kd.R_drew)); exact HO120.out))) (Kd.R_lt (by (with_reducible repeat (first | apply Kd.R_alloc | apply Kd.R_drewN | apply Kd.R_drew)); exact HO125.out))) (Kd.R_lt (by (with_reducible repeat (first | apply Kd.R_alloc | apply Kd.R_drewN | apply Kd.R_drew)); exact HO130.out))) (Kd.R_lt (by (with_reducible repeat (first | apply Kd.R_alloc | apply Kd.R_drewN | apply Kd.R_drew)); exact HO133.out))) (below_size (by repeat (first | (with_reducible first | exact HB.out | apply below_alloc | apply pw_below_drewN | apply below_drew1) | exact HB.out)))); have n5_ := Aside0.mk (below_step (by repeat (first | (with_reducible first | exact HB.out | apply below_alloc | apply pw_below_drewN | apply below_drew1) | exact HB.out)) hb); clear HO120; clear HO125; clear HO130; clear HO133; clear HB; have HO120 := n0_; have HO125 := n1_; have HO130 := n2_; have HO133 := n3_; have HO137 := n4_; have HB := n5_; clear n0_ n1_ n2_ n3_ n4_ n5_; (try clear hb); (try clear hb2); (try clear hk); (try clear hi); (try clear ho0)) | ((with_reducible refine gate_dst (N := 28) rfl ?_); (try (refine gate_guard (by rfl) ?_; dsimp only)); refine Kd.R_lit k34 _ 34 ?hg (N := 28) ?hd (xs := ([(⟨97, 0, 0⟩ : S34), (⟨0, 3, 1⟩ : S34)] : List (S34))) (inner := [.int .i64 97, .int .i64 0, .int .i64 0, .int .i64 0, .int .i64 3, .int .i64 1]) (ok := fun _ => True) (okp := fun _ => True) ?hr ?hp (fun _ hk => hk) trivial (Below.refl _ _) (Nat.le_refl _) (by simp) ?_; (case hd => rfl); (case hg => rfl); (case hr => first | (go_simp; done) | (go_simp; rfl)); (case hp => exact (Reps.c3 (show Kd.M k34 _ _ _ (⟨97, 0, 0⟩ : S34) [.int .i64 97, .int .i64 0, .int .i64 0] from (k34_mkM _ _ _ (⟨97, 0, 0⟩ : S34) )) (Reps.c3 (show Kd.M k34 _ _ _ (⟨0, 3, 1⟩ : S34) [.int .i64 0, .int .i64 3, .int .i64 1] from (k34_mkM _ _ _ (⟨0, 3, 1⟩ : S34) )) (Reps.none _ _)))); intro v139 w60 ho61 hb hg_ hnew_; clear hg_ hnew_; (first | rw [← Ny138.out] at ho61 | (simp only [Int.reduceToNat] at ho61; rw [← Ny138.out] at ho61)); have n0_ := Aside0.mk (Kd.R_elder' (by (with_reducible repeat (first | apply Kd.R_alloc | apply Kd.R_drewN | apply Kd.R_drew)); exact HO120.out) (Kd.R_base ho61) hb); have n1_ := Aside0.mk (Kd.R_elder' (by (with_reducible repeat (first | apply Kd.R_alloc | apply Kd.R_drewN | apply Kd.R_drew)); exact HO125.out) (Kd.R_base ho61) hb); have n2_ := Aside0.mk (Kd.R_elder' (by (with_reducible repeat (first | apply Kd.R_alloc | apply Kd.R_drewN | apply Kd.R_drew)); exact HO130.out) (Kd.R_base ho61) hb); have n3_ := Aside0.mk (Kd.R_elder' (by (with_reducible repeat (first | apply Kd.R_alloc | apply Kd.R_drewN | apply Kd.R_drew)); exact HO133.out) (Kd.R_base ho61) hb); have n4_ := Aside0.mk (Kd.R_elder' (by (with_reducible repeat (first | apply Kd.R_alloc | apply Kd.R_drewN | apply Kd.R_drew)); exact HO137.out) (Kd.R_base ho61) hb); have n5_ := Aside0.mk (Kd.R_lower (Kd.R_new' (Kd.R_new' (Kd.R_new' (Kd.R_new' (Kd.R_new' ho61 (Kd.R_lt (by (with_reducible repeat (first | apply Kd.R_alloc | apply Kd.R_drewN | apply Kd.R_drew)); exact HO120.out))) (Kd.R_lt (by (with_reducible repeat (first | apply Kd.R_alloc | apply Kd.R_drewN | apply Kd.R_drew)); exact HO125.out))) (Kd.R_lt (by (with_reducible repeat (first | apply Kd.R_alloc | apply Kd.R_drewN | apply Kd.R_drew)); exact HO130.out))) (Kd.R_lt (by (with_reducible repeat (first | apply Kd.R_alloc | apply Kd.R_drewN | apply Kd.R_drew)); exact HO133.out))) (Kd.R_lt (by (with_reducible repeat (first | apply Kd.R_alloc | apply Kd.R_drewN | apply Kd.R_drew)); exact HO137.out))) (below_size (by repeat (first | (with_reducible first | exact HB.out | apply below_alloc | apply pw_below_drewN | apply below_drew1) | exact HB.out)))); have n6_ := Aside0.mk (below_step (by repeat (first | (with_reducible first | exact HB.out | apply below_alloc | apply pw_below_drewN | apply below_drew1) | exact HB.out)) hb); clear HO120; clear HO125; clear HO130; clear HO133; clear HO137; clear HB; have HO120 := n0_; have HO125 := n1_; have HO130 := n2_; have HO133 := n3_; have HO137 := n4_; have HO140 := n5_; have HB := n6_; clear n0_ n1_ n2_ n3_ n4_ n5_ n6_; clear hb ho61; obtain ⟨Ao62, co62, eo62⟩ := Kd.R_slice HO137.out; subst eo62; obtain ⟨Ao63, co63, eo63⟩ := Kd.R_slice HO140.out; subst eo63) | (go_at_call 7; (with_reducible refine (vitrinelaw04_tokens.calls k _ _ t135 _ _ y138 false _ ?side1 ?side2 ?side3 ?side4 A7.out).mono ?_); (case side1 => repeat (first | exact (Kd.R_reads' HO137.out).2.2 | (with_reducible refine Kd.C_alloc ?_ _) | (with_reducible refine Kd.C_drewN ?_ _) | (with_reducible refine Kd.C_drew ?_))); (case side2 => exact (Kd.R_reads' HO137.out).2.1); (case side3 => repeat (first | exact (Kd.R_reads' HO140.out).2.2 | (with_reducible refine Kd.C_alloc ?_ _) | (with_reducible refine Kd.C_drewN ?_ _) | (with_reducible refine Kd.C_drew ?_))); (case side4 => exact (Kd.R_reads' HO140.out).2.1); rintro e w' ⟨rfl, ⟨nd, rfl⟩⟩))
      go_ret
      exact ⟨by first | rfl | (simp [errW_none, errW_some] <;> rfl) | (simp [*, errW_none, errW_some] <;> rfl), by repeat (first | (with_reducible first | exact HB.out | apply below_alloc | apply pw_below_drewN | apply below_drew1) | exact HB.out)⟩
  · replace c5 := Bool.eq_false_iff.mpr c5
    subst c5
    have H1 : (some false) = some r := by rw [if_neg (show ¬ (false = true) by decide)] at H; exact H
    clear H
    have H := H1
    clear H1
    obtain rfl := Option.some.inj H
    go_enter Try.func10, Try.ntmps10
    go_wp2_with (first | ((with_reducible refine gate_dst (N := 7) rfl ?_); (try (refine gate_guard (by rfl) ?_; dsimp only)); refine Kd.R_lit k34 _ 34 ?hg (N := 7) ?hd (xs := ([(⟨0, 3, 1⟩ : S34)] : List (S34))) (inner := [.int .i64 0, .int .i64 3, .int .i64 1]) (ok := fun _ => True) (okp := fun _ => True) ?hr ?hp (fun _ hk => hk) trivial (Below.refl _ _) (Nat.le_refl _) (by simp) ?_; (case hd => rfl); (case hg => rfl); (case hr => first | (go_simp; done) | (go_simp; rfl)); (case hp => exact (Reps.c3 (show Kd.M k34 _ _ _ (⟨0, 3, 1⟩ : S34) [.int .i64 0, .int .i64 3, .int .i64 1] from (k34_mkM _ _ _ (⟨0, 3, 1⟩ : S34) )) (Reps.none _ _))); intro v119 w64 ho65 hb hg_ hnew_; clear hg_ hnew_; (first | rw [← Ny118.out] at ho65 | (simp only [Int.reduceToNat] at ho65; rw [← Ny118.out] at ho65)); have n0_ := Aside0.mk (Kd.R_lower ho65 (below_size (by repeat (first | (with_reducible first | exact HB.out | apply below_alloc | apply pw_below_drewN | apply below_drew1) | exact HB.out)))); have n1_ := Aside0.mk (below_step (by repeat (first | (with_reducible first | exact HB.out | apply below_alloc | apply pw_below_drewN | apply below_drew1) | exact HB.out)) hb); clear HB; have HO120 := n0_; have HB := n1_; clear n0_ n1_; clear hb ho65; obtain ⟨Ao66, co66, eo66⟩ := Kd.R_slice HO120.out; subst eo66) | ((with_reducible refine gate_callee (f := 11) rfl ?_); refine goesL_ (some 8) rfl rfl Try.func11 (by kernel_rfl) rfl #[.slice Ao66 y118.length co66] rfl (by (try simp only [List.map_toArray, List.map_cons, List.map_nil]); first | done | rfl | (simp only [List.length_drop, List.length_take]; rfl)) ?_; (with_reducible refine (lz_Expand.calls k _ _ y118 t121 t122 _ ?side1 ?side2 A1.out).mono ?_); (case side1 => repeat (first | exact (Kd.R_reads' HO120.out).2.2 | (with_reducible refine Kd.C_alloc ?_ _) | (with_reducible refine Kd.C_drewN ?_ _) | (with_reducible refine Kd.C_drew ?_))); (case side2 => exact (Kd.R_reads' HO120.out).2.1); rintro e w67 ⟨rfl, hb⟩; refine ⟨_, rfl, ?_⟩; have n0_ := Aside0.mk (Kd.R_below (by (with_reducible repeat (first | apply Kd.R_alloc | apply Kd.R_drewN | apply Kd.R_drew)); exact HO120.out) hb); have n1_ := Aside0.mk (below_step (by repeat (first | (with_reducible first | exact HB.out | apply below_alloc | apply pw_below_drewN | apply below_drew1) | exact HB.out)) hb); clear HO120; clear HB; have HO120 := n0_; have HB := n1_; clear n0_ n1_; (try clear hb); (try clear hb2); (try clear hk); (try clear hi)) | ((with_reducible refine gate_dst (N := 13) rfl ?_); (try (refine gate_guard (by rfl) ?_; dsimp only)); refine Kd.R_lit k34 _ 34 ?hg (N := 13) ?hd (xs := ([(⟨0, 2, 1⟩ : S34)] : List (S34))) (inner := [.int .i64 0, .int .i64 2, .int .i64 1]) (ok := fun _ => True) (okp := fun _ => True) ?hr ?hp (fun _ hk => hk) trivial (Below.refl _ _) (Nat.le_refl _) (by simp) ?_; (case hd => rfl); (case hg => rfl); (case hr => first | (go_simp; done) | (go_simp; rfl)); (case hp => exact (Reps.c3 (show Kd.M k34 _ _ _ (⟨0, 2, 1⟩ : S34) [.int .i64 0, .int .i64 2, .int .i64 1] from (k34_mkM _ _ _ (⟨0, 2, 1⟩ : S34) )) (Reps.none _ _))); intro v124 w68 ho69 hb hg_ hnew_; clear hg_ hnew_; (first | rw [← Ny123.out] at ho69 | (simp only [Int.reduceToNat] at ho69; rw [← Ny123.out] at ho69)); have n0_ := Aside0.mk (Kd.R_elder' (by (with_reducible repeat (first | apply Kd.R_alloc | apply Kd.R_drewN | apply Kd.R_drew)); exact HO120.out) (Kd.R_base ho69) hb); have n1_ := Aside0.mk (Kd.R_lower (Kd.R_new' ho69 (Kd.R_lt (by (with_reducible repeat (first | apply Kd.R_alloc | apply Kd.R_drewN | apply Kd.R_drew)); exact HO120.out))) (below_size (by repeat (first | (with_reducible first | exact HB.out | apply below_alloc | apply pw_below_drewN | apply below_drew1) | exact HB.out)))); have n2_ := Aside0.mk (below_step (by repeat (first | (with_reducible first | exact HB.out | apply below_alloc | apply pw_below_drewN | apply below_drew1) | exact HB.out)) hb); clear HO120; clear HB; have HO120 := n0_; have HO125 := n1_; have HB := n2_; clear n0_ n1_ n2_; clear hb ho69; obtain ⟨Ao70, co70, eo70⟩ := Kd.R_slice HO125.out; subst eo70) | ((with_reducible refine gate_callee (f := 11) rfl ?_); refine goesL_ (some 14) rfl rfl Try.func11 (by kernel_rfl) rfl #[.slice Ao70 y123.length co70] rfl (by (try simp only [List.map_toArray, List.map_cons, List.map_nil]); first | done | rfl | (simp only [List.length_drop, List.length_take]; rfl)) ?_; (with_reducible refine (lz_Expand.calls k _ _ y123 t126 t127 _ ?side1 ?side2 A2.out).mono ?_); (case side1 => repeat (first | exact (Kd.R_reads' HO125.out).2.2 | (with_reducible refine Kd.C_alloc ?_ _) | (with_reducible refine Kd.C_drewN ?_ _) | (with_reducible refine Kd.C_drew ?_))); (case side2 => exact (Kd.R_reads' HO125.out).2.1); rintro e w71 ⟨rfl, hb⟩; refine ⟨_, rfl, ?_⟩; have n0_ := Aside0.mk (Kd.R_below (by (with_reducible repeat (first | apply Kd.R_alloc | apply Kd.R_drewN | apply Kd.R_drew)); exact HO120.out) hb); have n1_ := Aside0.mk (Kd.R_below (by (with_reducible repeat (first | apply Kd.R_alloc | apply Kd.R_drewN | apply Kd.R_drew)); exact HO125.out) hb); have n2_ := Aside0.mk (below_step (by repeat (first | (with_reducible first | exact HB.out | apply below_alloc | apply pw_below_drewN | apply below_drew1) | exact HB.out)) hb); clear HO120; clear HO125; clear HB; have HO120 := n0_; have HO125 := n1_; have HB := n2_; clear n0_ n1_ n2_; (try clear hb); (try clear hb2); (try clear hk); (try clear hi)) | ((with_reducible refine gate_callee (f := 8) rfl ?_); refine goesL_ (some 17) rfl rfl Try.func8 (by kernel_rfl) rfl #[.string (⟨#[97, 98, 99, 97, 98, 99, 97, 98]⟩ : ByteArray)] rfl (by (try simp only [List.map_toArray, List.map_cons, List.map_nil]); first | done | rfl | (simp only [List.length_drop, List.length_take]; rfl)) ?_; (with_reducible refine (lz_Tokens.calls (⟨#[97, 98, 99, 97, 98, 99, 97, 98]⟩ : ByteArray) t128 _ A3.out).mono ?_); rintro e w72 ⟨v129, rfl, ho0, hb⟩; refine ⟨_, rfl, ?_⟩; have n0_ := Aside0.mk (Kd.R_elder' (by (with_reducible repeat (first | apply Kd.R_alloc | apply Kd.R_drewN | apply Kd.R_drew)); exact HO120.out) (Kd.R_base ho0) hb); have n1_ := Aside0.mk (Kd.R_elder' (by (with_reducible repeat (first | apply Kd.R_alloc | apply Kd.R_drewN | apply Kd.R_drew)); exact HO125.out) (Kd.R_base ho0) hb); have n2_ := Aside0.mk (Kd.R_lower (Kd.R_new' (Kd.R_new' ho0 (Kd.R_lt (by (with_reducible repeat (first | apply Kd.R_alloc | apply Kd.R_drewN | apply Kd.R_drew)); exact HO120.out))) (Kd.R_lt (by (with_reducible repeat (first | apply Kd.R_alloc | apply Kd.R_drewN | apply Kd.R_drew)); exact HO125.out))) (below_size (by repeat (first | (with_reducible first | exact HB.out | apply below_alloc | apply pw_below_drewN | apply below_drew1) | exact HB.out)))); have n3_ := Aside0.mk (below_step (by repeat (first | (with_reducible first | exact HB.out | apply below_alloc | apply pw_below_drewN | apply below_drew1) | exact HB.out)) hb); clear HO120; clear HO125; clear HB; have HO120 := n0_; have HO125 := n1_; have HO130 := n2_; have HB := n3_; clear n0_ n1_ n2_ n3_; (try clear hb); (try clear hb2); (try clear hk); (try clear hi); (try clear ho0)) | ((with_reducible refine gate_dst (N := 22) rfl ?_); (try (refine gate_guard (by rfl) ?_; dsimp only)); refine Kd.R_lit k34 _ 34 ?hg (N := 22) ?hd (xs := ([(⟨97, 0, 0⟩ : S34), (⟨98, 0, 0⟩ : S34), (⟨99, 0, 0⟩ : S34), (⟨0, 5, 3⟩ : S34)] : List (S34))) (inner := [.int .i64 97, .int .i64 0, .int .i64 0, .int .i64 98, .int .i64 0, .int .i64 0, .int .i64 99, .int .i64 0, .int .i64 0, .int .i64 0, .int .i64 5, .int .i64 3]) (ok := fun _ => True) (okp := fun _ => True) ?hr ?hp (fun _ hk => hk) trivial (Below.refl _ _) (Nat.le_refl _) (by simp) ?_; (case hd => rfl); (case hg => rfl); (case hr => first | (go_simp; done) | (go_simp; rfl)); (case hp => exact (Reps.c3 (show Kd.M k34 _ _ _ (⟨97, 0, 0⟩ : S34) [.int .i64 97, .int .i64 0, .int .i64 0] from (k34_mkM _ _ _ (⟨97, 0, 0⟩ : S34) )) (Reps.c3 (show Kd.M k34 _ _ _ (⟨98, 0, 0⟩ : S34) [.int .i64 98, .int .i64 0, .int .i64 0] from (k34_mkM _ _ _ (⟨98, 0, 0⟩ : S34) )) (Reps.c3 (show Kd.M k34 _ _ _ (⟨99, 0, 0⟩ : S34) [.int .i64 99, .int .i64 0, .int .i64 0] from (k34_mkM _ _ _ (⟨99, 0, 0⟩ : S34) )) (Reps.c3 (show Kd.M k34 _ _ _ (⟨0, 5, 3⟩ : S34) [.int .i64 0, .int .i64 5, .int .i64 3] from (k34_mkM _ _ _ (⟨0, 5, 3⟩ : S34) )) (Reps.none _ _)))))); intro v132 w73 ho74 hb hg_ hnew_; clear hg_ hnew_; (first | rw [← Ny131.out] at ho74 | (simp only [Int.reduceToNat] at ho74; rw [← Ny131.out] at ho74)); have n0_ := Aside0.mk (Kd.R_elder' (by (with_reducible repeat (first | apply Kd.R_alloc | apply Kd.R_drewN | apply Kd.R_drew)); exact HO120.out) (Kd.R_base ho74) hb); have n1_ := Aside0.mk (Kd.R_elder' (by (with_reducible repeat (first | apply Kd.R_alloc | apply Kd.R_drewN | apply Kd.R_drew)); exact HO125.out) (Kd.R_base ho74) hb); have n2_ := Aside0.mk (Kd.R_elder' (by (with_reducible repeat (first | apply Kd.R_alloc | apply Kd.R_drewN | apply Kd.R_drew)); exact HO130.out) (Kd.R_base ho74) hb); have n3_ := Aside0.mk (Kd.R_lower (Kd.R_new' (Kd.R_new' (Kd.R_new' ho74 (Kd.R_lt (by (with_reducible repeat (first | apply Kd.R_alloc | apply Kd.R_drewN | apply Kd.R_drew)); exact HO120.out))) (Kd.R_lt (by (with_reducible repeat (first | apply Kd.R_alloc | apply Kd.R_drewN | apply Kd.R_drew)); exact HO125.out))) (Kd.R_lt (by (with_reducible repeat (first | apply Kd.R_alloc | apply Kd.R_drewN | apply Kd.R_drew)); exact HO130.out))) (below_size (by repeat (first | (with_reducible first | exact HB.out | apply below_alloc | apply pw_below_drewN | apply below_drew1) | exact HB.out)))); have n4_ := Aside0.mk (below_step (by repeat (first | (with_reducible first | exact HB.out | apply below_alloc | apply pw_below_drewN | apply below_drew1) | exact HB.out)) hb); clear HO120; clear HO125; clear HO130; clear HB; have HO120 := n0_; have HO125 := n1_; have HO130 := n2_; have HO133 := n3_; have HB := n4_; clear n0_ n1_ n2_ n3_ n4_; clear hb ho74; obtain ⟨Ao75, co75, eo75⟩ := Kd.R_slice HO130.out; subst eo75; obtain ⟨Ao76, co76, eo76⟩ := Kd.R_slice HO133.out; subst eo76) | ((with_reducible refine gate_callee (f := 7) rfl ?_); refine goesL_ (some 23) rfl rfl Try.func7 (by kernel_rfl) rfl #[.slice Ao75 t128.length co75, .slice Ao76 y131.length co76] rfl (by (try simp only [List.map_toArray, List.map_cons, List.map_nil]); first | done | rfl | (simp only [List.length_drop, List.length_take]; rfl)) ?_; (with_reducible refine (vitrinelaw04_tokens.calls k _ _ t128 _ _ y131 false _ ?side1 ?side2 ?side3 ?side4 A4.out).mono ?_); (case side1 => repeat (first | exact (Kd.R_reads' HO130.out).2.2 | (with_reducible refine Kd.C_alloc ?_ _) | (with_reducible refine Kd.C_drewN ?_ _) | (with_reducible refine Kd.C_drew ?_))); (case side2 => exact (Kd.R_reads' HO130.out).2.1); (case side3 => repeat (first | exact (Kd.R_reads' HO133.out).2.2 | (with_reducible refine Kd.C_alloc ?_ _) | (with_reducible refine Kd.C_drewN ?_ _) | (with_reducible refine Kd.C_drew ?_))); (case side4 => exact (Kd.R_reads' HO133.out).2.1); rintro e w' ⟨rfl, ⟨nd, rfl⟩⟩; refine ⟨_, rfl, ?_⟩))
    go_ret
    exact ⟨by first | rfl | (simp [errW_none, errW_some] <;> rfl) | (simp [*, errW_none, errW_some] <;> rfl), by repeat (first | (with_reducible first | exact HB.out | apply below_alloc | apply pw_below_drewN | apply below_drew1) | exact HB.out)⟩

end Go.Proofs.Ytlhgdkaaomdipaa.Pr
