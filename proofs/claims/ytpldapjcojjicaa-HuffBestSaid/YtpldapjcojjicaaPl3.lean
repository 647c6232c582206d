-- printed by a program (see NOTES.md); Lean checks it
import Derived.Test.YtpldapjcojjicaaPl0
import Derived.Test.YtpldapjcojjicaaA2
import Derived.Test.YtpldapjcojjicaaGv
namespace Go.Proofs.Ytpldapjcojjicaa.Pl
open Go.RowKit Go.Proofs.YtpldapjcojjicaaW.PrintWords Go.Proofs.YtpldapjcojjicaaW.PrintLast Go.Proofs.YtpldapjcojjicaaW.PrintMore
attribute [local go_sem] max2_int min2_int max_two min_two max_three min_three max_four min_four   -- for this text's walks alone
set_option linter.unusedVariables false
set_option linter.unusedSimpArgs false

/-! ### vitrinelaw02_HuffBest: function 11 -/
mutual
def vitrinelaw02_HuffBest.j0 : Nat → Int → List Int → List Int → Bool → Option (Bool)
  | 0, _, _, _, _ => none
  | k + 1, x0, x1, x5, x41 => if x41 = true then (some false) else (vitrinelaw02_HuffBest.l0 k x0 x1 x5 0 0)
def vitrinelaw02_HuffBest.l0 : Nat → Int → List Int → List Int → Int → Int → Option (Bool)
  | 0, _, _, _, _, _ => none
  | k + 1, x0, x1, x5, x7, x8 => if x8 < (x5.length : Int) then (if 0 ≤ x8 then (if x8 < (x1.length : Int) then (if ((decide ((rd x5 x8) > 0)) != (decide ((rd x1 x8) > 0))) = true then (vitrinelaw02_HuffBest.j2 k x0 x1 x5 x7 x8 true) else (vitrinelaw02_HuffBest.j2 k x0 x1 x5 x7 x8 (decide ((rd x5 x8) > x0)))) else (none)) else (none)) else (if x0 < 15 then ((huff_Limit.f (wrap64 (x0 + 1)) x1).bind fun bt155 => (if bt155.2 = 0 then (vitrinelaw02_HuffBest.j4 k x1 x7 bt155.1 ((bt155.1.length : Int) != (x5.length : Int))) else (vitrinelaw02_HuffBest.j4 k x1 x7 bt155.1 true))) else ((vitrinelaw02_awake.f).bind fun t162 => (some t162)))
def vitrinelaw02_HuffBest.j2 : Nat → Int → List Int → List Int → Int → Int → Bool → Option (Bool)
  | 0, _, _, _, _, _, _ => none
  | k + 1, x0, x1, x5, x7, x8, x66 => if x66 = true then (some false) else (if 0 ≤ x8 then (if x8 < (x5.length : Int) then (if x8 < (x1.length : Int) then (vitrinelaw02_HuffBest.l1 k x0 x1 x5 (wrap64 (x7 + (wrap64 ((rd x5 x8) * (rd x1 x8))))) x8 0) else (none)) else (none)) else (none))
def vitrinelaw02_HuffBest.l1 : Nat → Int → List Int → List Int → Int → Int → Int → Option (Bool)
  | 0, _, _, _, _, _, _ => none
  | k + 1, x0, x1, x5, x7, x8, x9 => if x9 < (x5.length : Int) then (if 0 ≤ x8 then (if x8 < (x1.length : Int) then (if 0 ≤ x9 then (if x9 < (x1.length : Int) then (if (rd x1 x8) > (rd x1 x9) then (if (rd x1 x9) > 0 then (if x8 < (x5.length : Int) then (if (rd x5 x8) > (rd x5 x9) then (some false) else (vitrinelaw02_HuffBest.l1 k x0 x1 x5 x7 x8 (wrap64 (x9 + 1)))) else (none)) else (vitrinelaw02_HuffBest.l1 k x0 x1 x5 x7 x8 (wrap64 (x9 + 1)))) else (vitrinelaw02_HuffBest.l1 k x0 x1 x5 x7 x8 (wrap64 (x9 + 1)))) else (none)) else (none)) else (none)) else (none)) else (vitrinelaw02_HuffBest.l0 k x0 x1 x5 x7 (wrap64 (x8 + 1)))
def vitrinelaw02_HuffBest.j4 : Nat → List Int → Int → List Int → Bool → Option (Bool)
  | 0, _, _, _, _ => none
  | k + 1, x1, x7, x10, x128 => if x128 = true then (some false) else (vitrinelaw02_HuffBest.l2 k x1 x7 x10 0 0)
def vitrinelaw02_HuffBest.l2 : Nat → List Int → Int → List Int → Int → Int → Option (Bool)
  | 0, _, _, _, _, _ => none
  | k + 1, x1, x7, x10, x12, x13 => if x13 < (x10.length : Int) then (if 0 ≤ x13 then (if x13 < (x1.length : Int) then (vitrinelaw02_HuffBest.l2 k x1 x7 x10 (wrap64 (x12 + (wrap64 ((rd x10 x13) * (rd x1 x13))))) (wrap64 (x13 + 1))) else (none)) else (none)) else (if x12 ≤ x7 then ((vitrinelaw02_awake.f).bind fun t161 => (some t161)) else (some false))
end
def vitrinelaw02_HuffBest.f (k : Nat) (a0 : Int) (l1 : List Int) : Option (Bool) := (huff_Limit.f a0 l1).bind fun bt139 => (if bt139.2 = 0 then (if (bt139.1.length : Int) = (l1.length : Int) then ((huff_Check.f bt139.1).bind fun t144 => (vitrinelaw02_HuffBest.j0 k a0 l1 bt139.1 (t144 != 0))) else (vitrinelaw02_HuffBest.j0 k a0 l1 bt139.1 true)) else (if bt139.2 = 1 then (if (bt139.1.length : Int) = 0 then ((vitrinelaw02_awake.f).bind fun t143 => (some t143)) else (some false)) else (some false)))
theorem vitrinelaw02_HuffBest.mono_l : ∀ k, (∀ y0 y1 y2 y3, LeO (vitrinelaw02_HuffBest.j0 k y0 y1 y2 y3) (vitrinelaw02_HuffBest.j0 (k + 1) y0 y1 y2 y3)) ∧ (∀ y0 y1 y2 y3 y4, LeO (vitrinelaw02_HuffBest.l0 k y0 y1 y2 y3 y4) (vitrinelaw02_HuffBest.l0 (k + 1) y0 y1 y2 y3 y4)) ∧ (∀ y0 y1 y2 y3 y4 y5, LeO (vitrinelaw02_HuffBest.j2 k y0 y1 y2 y3 y4 y5) (vitrinelaw02_HuffBest.j2 (k + 1) y0 y1 y2 y3 y4 y5)) ∧ (∀ y0 y1 y2 y3 y4 y5, LeO (vitrinelaw02_HuffBest.l1 k y0 y1 y2 y3 y4 y5) (vitrinelaw02_HuffBest.l1 (k + 1) y0 y1 y2 y3 y4 y5)) ∧ (∀ y0 y1 y2 y3, LeO (vitrinelaw02_HuffBest.j4 k y0 y1 y2 y3) (vitrinelaw02_HuffBest.j4 (k + 1) y0 y1 y2 y3)) ∧ (∀ y0 y1 y2 y3 y4, LeO (vitrinelaw02_HuffBest.l2 k y0 y1 y2 y3 y4) (vitrinelaw02_HuffBest.l2 (k + 1) y0 y1 y2 y3 y4))
  | 0 => ⟨fun _ _ _ _ r h => by simp [vitrinelaw02_HuffBest.j0] at h, fun _ _ _ _ _ r h => by simp [vitrinelaw02_HuffBest.l0] at h, fun _ _ _ _ _ _ r h => by simp [vitrinelaw02_HuffBest.j2] at h, fun _ _ _ _ _ _ r h => by simp [vitrinelaw02_HuffBest.l1] at h, fun _ _ _ _ r h => by simp [vitrinelaw02_HuffBest.j4] at h, fun _ _ _ _ _ r h => by simp [vitrinelaw02_HuffBest.l2] at h⟩
  | k + 1 => by
    obtain ⟨ih0, ih1, ih2, ih3, ih4, ih5⟩ := vitrinelaw02_HuffBest.mono_l k
    refine ⟨?_, ?_, ?_, ?_, ?_, ?_⟩
    · intro y0 y1 y2 y3
      unfold vitrinelaw02_HuffBest.j0
      repeat' first
      | (with_reducible exact ih0 _ _ _ _)
      | (with_reducible exact ih1 _ _ _ _ _)
      | (with_reducible exact ih2 _ _ _ _ _ _)
      | (with_reducible exact ih3 _ _ _ _ _ _)
      | (with_reducible exact ih4 _ _ _ _)
      | (with_reducible exact ih5 _ _ _ _ _)
      | (with_reducible exact LeO.refl _)
      | (with_reducible exact LeO.none _)
      | (with_reducible refine LeO.ite ?_ ?_)
      | (with_reducible refine LeO.bind ?_ (fun _ => ?_))
      | exact ih0 _ _ _ _
      | exact ih1 _ _ _ _ _
      | exact ih2 _ _ _ _ _ _
      | exact ih3 _ _ _ _ _ _
      | exact ih4 _ _ _ _
      | exact ih5 _ _ _ _ _
      | exact LeO.none _
      | refine LeO.ite ?_ ?_
      | refine LeO.bind ?_ (fun _ => ?_)
    · intro y0 y1 y2 y3 y4
      unfold vitrinelaw02_HuffBest.l0
      repeat' first
      | (with_reducible exact ih0 _ _ _ _)
      | (with_reducible exact ih1 _ _ _ _ _)
      | (with_reducible exact ih2 _ _ _ _ _ _)
      | (with_reducible exact ih3 _ _ _ _ _ _)
      | (with_reducible exact ih4 _ _ _ _)
      | (with_reducible exact ih5 _ _ _ _ _)
      | (with_reducible exact LeO.refl _)
      | (with_reducible exact LeO.none _)
      | (with_reducible refine LeO.ite ?_ ?_)
      | (with_reducible refine LeO.bind ?_ (fun _ => ?_))
      | exact ih0 _ _ _ _
      | exact ih1 _ _ _ _ _
      | exact ih2 _ _ _ _ _ _
      | exact ih3 _ _ _ _ _ _
      | exact ih4 _ _ _ _
      | exact ih5 _ _ _ _ _
      | exact LeO.none _
      | refine LeO.ite ?_ ?_
      | refine LeO.bind ?_ (fun _ => ?_)
    · intro y0 y1 y2 y3 y4 y5
      unfold vitrinelaw02_HuffBest.j2
      repeat' first
      | (with_reducible exact ih0 _ _ _ _)
      | (with_reducible exact ih1 _ _ _ _ _)
      | (with_reducible exact ih2 _ _ _ _ _ _)
      | (with_reducible exact ih3 _ _ _ _ _ _)
      | (with_reducible exact ih4 _ _ _ _)
      | (with_reducible exact ih5 _ _ _ _ _)
      | (with_reducible exact LeO.refl _)
      | (with_reducible exact LeO.none _)
      | (with_reducible refine LeO.ite ?_ ?_)
      | (with_reducible refine LeO.bind ?_ (fun _ => ?_))
      | exact ih0 _ _ _ _
      | exact ih1 _ _ _ _ _
      | exact ih2 _ _ _ _ _ _
      | exact ih3 _ _ _ _ _ _
      | exact ih4 _ _ _ _
      | exact ih5 _ _ _ _ _
      | exact LeO.none _
      | refine LeO.ite ?_ ?_
      | refine LeO.bind ?_ (fun _ => ?_)
    · intro y0 y1 y2 y3 y4 y5
      unfold vitrinelaw02_HuffBest.l1
      repeat' first
      | (with_reducible exact ih0 _ _ _ _)
      | (with_reducible exact ih1 _ _ _ _ _)
      | (with_reducible exact ih2 _ _ _ _ _ _)
      | (with_reducible exact ih3 _ _ _ _ _ _)
      | (with_reducible exact ih4 _ _ _ _)
      | (with_reducible exact ih5 _ _ _ _ _)
      | (with_reducible exact LeO.refl _)
      | (with_reducible exact LeO.none _)
      | (with_reducible refine LeO.ite ?_ ?_)
      | (with_reducible refine LeO.bind ?_ (fun _ => ?_))
      | exact ih0 _ _ _ _
      | exact ih1 _ _ _ _ _
      | exact ih2 _ _ _ _ _ _
      | exact ih3 _ _ _ _ _ _
      | exact ih4 _ _ _ _
      | exact ih5 _ _ _ _ _
      | exact LeO.none _
      | refine LeO.ite ?_ ?_
      | refine LeO.bind ?_ (fun _ => ?_)
    · intro y0 y1 y2 y3
      unfold vitrinelaw02_HuffBest.j4
      repeat' first
      | (with_reducible exact ih0 _ _ _ _)
      | (with_reducible exact ih1 _ _ _ _ _)
      | (with_reducible exact ih2 _ _ _ _ _ _)
      | (with_reducible exact ih3 _ _ _ _ _ _)
      | (with_reducible exact ih4 _ _ _ _)
      | (with_reducible exact ih5 _ _ _ _ _)
      | (with_reducible exact LeO.refl _)
      | (with_reducible exact LeO.none _)
      | (with_reducible refine LeO.ite ?_ ?_)
      | (with_reducible refine LeO.bind ?_ (fun _ => ?_))
      | exact ih0 _ _ _ _
      | exact ih1 _ _ _ _ _
      | exact ih2 _ _ _ _ _ _
      | exact ih3 _ _ _ _ _ _
      | exact ih4 _ _ _ _
      | exact ih5 _ _ _ _ _
      | exact LeO.none _
      | refine LeO.ite ?_ ?_
      | refine LeO.bind ?_ (fun _ => ?_)
    · intro y0 y1 y2 y3 y4
      unfold vitrinelaw02_HuffBest.l2
      repeat' first
      | (with_reducible exact ih0 _ _ _ _)
      | (with_reducible exact ih1 _ _ _ _ _)
      | (with_reducible exact ih2 _ _ _ _ _ _)
      | (with_reducible exact ih3 _ _ _ _ _ _)
      | (with_reducible exact ih4 _ _ _ _)
      | (with_reducible exact ih5 _ _ _ _ _)
      | (with_reducible exact LeO.refl _)
      | (with_reducible exact LeO.none _)
      | (with_reducible refine LeO.ite ?_ ?_)
      | (with_reducible refine LeO.bind ?_ (fun _ => ?_))
      | exact ih0 _ _ _ _
      | exact ih1 _ _ _ _ _
      | exact ih2 _ _ _ _ _ _
      | exact ih3 _ _ _ _ _ _
      | exact ih4 _ _ _ _
      | exact ih5 _ _ _ _ _
      | exact LeO.none _
      | refine LeO.ite ?_ ?_
      | refine LeO.bind ?_ (fun _ => ?_)
theorem vitrinelaw02_HuffBest.mono : ∀ a0 a1 k, LeO (vitrinelaw02_HuffBest.f k a0 a1) (vitrinelaw02_HuffBest.f (k + 1) a0 a1) := by
  intro a0 a1 k
  obtain ⟨ih0, ih1, ih2, ih3, ih4, ih5⟩ := vitrinelaw02_HuffBest.mono_l k
  unfold vitrinelaw02_HuffBest.f
  repeat' first
      | (with_reducible exact ih0 _ _ _ _)
      | (with_reducible exact ih1 _ _ _ _ _)
      | (with_reducible exact ih2 _ _ _ _ _ _)
      | (with_reducible exact ih3 _ _ _ _ _ _)
      | (with_reducible exact ih4 _ _ _ _)
      | (with_reducible exact ih5 _ _ _ _ _)
      | (with_reducible exact LeO.refl _)
      | (with_reducible exact LeO.none _)
      | (with_reducible refine LeO.ite ?_ ?_)
      | (with_reducible refine LeO.bind ?_ (fun _ => ?_))
      | exact ih0 _ _ _ _
      | exact ih1 _ _ _ _ _
      | exact ih2 _ _ _ _ _ _
      | exact ih3 _ _ _ _ _ _
      | exact ih4 _ _ _ _
      | exact ih5 _ _ _ _ _
      | exact LeO.none _
      | refine LeO.ite ?_ ?_
      | refine LeO.bind ?_ (fun _ => ?_)
set_option maxHeartbeats 8000000 in
set_option maxRecDepth 100000 in
theorem vitrinelaw02_HuffBest.calls (k : Nat) (a0 : Int) (A1 : Option Addr) (c1 : Nat) (l1 : List Int) (r : Bool) (w : World) (hr1 : Kd.C (Kd.int .i64) w A1 l1.length l1) (hc1 : l1.length ≤ c1) (h : vitrinelaw02_HuffBest.f k a0 l1 = some r) :
    Calls Try.prog 11 #[.int .i64 a0, .slice A1 l1.length c1] w fun e w' => e = .returned (.bool r) ∧ Below w.heap.size w w' := by
  have HR1 := Aside0.mk hr1
  have HC1 := Aside0.mk hc1
  clear hr1 hc1
  have HB := Aside0.mk (Below.refl w.heap.size w)
  have H : ((huff_Limit.f a0 l1).bind fun bt139 => (if bt139.2 = 0 then (if (bt139.1.length : Int) = (l1.length : Int) then ((huff_Check.f bt139.1).bind fun t144 => (vitrinelaw02_HuffBest.j0 k a0 l1 bt139.1 (t144 != 0))) else (vitrinelaw02_HuffBest.j0 k a0 l1 bt139.1 true)) else (if bt139.2 = 1 then (if (bt139.1.length : Int) = 0 then ((vitrinelaw02_awake.f).bind fun t143 => (some t143)) else (some false)) else (some false)))) = some r := h
  clear h
  replace H := Option.bind_eq_some_iff.mp H
  obtain ⟨⟨t139, t140⟩, A30, H⟩ := H
  replace H : (if t140 = 0 then (if (t139.length : Int) = (l1.length : Int) then ((huff_Check.f t139).bind fun t144 => (vitrinelaw02_HuffBest.j0 k a0 l1 t139 (t144 != 0))) else (vitrinelaw02_HuffBest.j0 k a0 l1 t139 true)) else (if t140 = 1 then (if (t139.length : Int) = 0 then ((vitrinelaw02_awake.f).bind fun t143 => (some t143)) else (some false)) else (some false))) = some r := H
  have A3 := Aside0.mk A30
  clear A30
  by_cases c4 : t140 = 0
  · rw [if_pos c4] at H
    have c4b0 : (t140 == 0) = true := beq_iff_eq.mpr c4
    have c4b1 : (t140 != 0) = false := bne_eq_false_iff_eq.mpr c4
    clear c4
    have HC5 := Aside0.mk H
    clear H
    go_enter Try.func11, Try.ntmps11
    go_upto_region 4 with (first | (go_at_call 40; (with_reducible refine (huff_Limit.calls a0 _ _ l1 t139 t140 _ ?side1 ?side2 A3.out).mono ?_); (case side1 => repeat (first | exact HR1.out | (with_reducible refine Kd.C_alloc ?_ _) | (with_reducible refine Kd.C_drewN ?_ _) | (with_reducible refine Kd.C_drew ?_))); (case side2 => exact HC1.out); rintro e w6 ⟨v141, rfl, ho0, hb⟩; have n0_ := Aside0.mk (Kd.R_lower ho0 (below_size (by repeat (first | (with_reducible first | exact HB.out | apply below_alloc | apply pw_below_drewN | apply below_drew1) | exact HB.out)))); have n1_ := Aside0.mk (below_step (by repeat (first | (with_reducible first | exact HB.out | apply below_alloc | apply pw_below_drewN | apply below_drew1) | exact HB.out)) hb); clear HB; have HO142 := n0_; have HB := n1_; clear n0_ n1_; (try clear hb); (try clear hb2); (try clear hk); (try clear hi); (try clear ho0)))
    repeat (go_quiet (first | (go_at_call 40; (with_reducible refine (huff_Limit.calls a0 _ _ l1 t139 t140 _ ?side1 ?side2 A3.out).mono ?_); (case side1 => repeat (first | exact HR1.out | (with_reducible refine Kd.C_alloc ?_ _) | (with_reducible refine Kd.C_drewN ?_ _) | (with_reducible refine Kd.C_drew ?_))); (case side2 => exact HC1.out); rintro e w6 ⟨v141, rfl, ho0, hb⟩; have n0_ := Aside0.mk (Kd.R_lower ho0 (below_size (by repeat (first | (with_reducible first | exact HB.out | apply below_alloc | apply pw_below_drewN | apply below_drew1) | exact HB.out)))); have n1_ := Aside0.mk (below_step (by repeat (first | (with_reducible first | exact HB.out | apply below_alloc | apply pw_below_drewN | apply below_drew1) | exact HB.out)) hb); clear HB; have HO142 := n0_; have HB := n1_; clear n0_ n1_; (try clear hb); (try clear hb2); (try clear hk); (try clear hi); (try clear ho0))); go_upto_region 4 with (first | (go_at_call 40; (with_reducible refine (huff_Limit.calls a0 _ _ l1 t139 t140 _ ?side1 ?side2 A3.out).mono ?_); (case side1 => repeat (first | exact HR1.out | (with_reducible refine Kd.C_alloc ?_ _) | (with_reducible refine Kd.C_drewN ?_ _) | (with_reducible refine Kd.C_drew ?_))); (case side2 => exact HC1.out); rintro e w6 ⟨v141, rfl, ho0, hb⟩; have n0_ := Aside0.mk (Kd.R_lower ho0 (below_size (by repeat (first | (with_reducible first | exact HB.out | apply below_alloc | apply pw_below_drewN | apply below_drew1) | exact HB.out)))); have n1_ := Aside0.mk (below_step (by repeat (first | (with_reducible first | exact HB.out | apply below_alloc | apply pw_below_drewN | apply below_drew1) | exact HB.out)) hb); clear HB; have HO142 := n0_; have HB := n1_; clear n0_ n1_; (try clear hb); (try clear hb2); (try clear hk); (try clear hi); (try clear ho0))))
    (try simp only [Act.put, List.setIfInBounds_toArray, List.set_cons_zero, List.set_cons_succ])
    go_cut [41] (fun v41 wc => ∃ (kq : Nat) (x41_4 : Bool), v41 = .bool x41_4 ∧ Aside0 (vitrinelaw02_HuffBest.j0 kq a0 l1 t139 x41_4 = some r) ∧ Aside0 (kq ≤ k) ∧ Aside0 (Kd.R (Kd.int .i64) 3 wc w.heap.size (fun _ => True) v141 t139) ∧ Aside0 (Below w.heap.size w wc))
    case first =>
      have H := HC5.out
      clear HC5
      by_cases c7 : (t139.length : Int) = (l1.length : Int)
      · rw [if_pos c7] at H
        have c7b0 : ((t139.length : Int) == (l1.length : Int)) = true := beq_iff_eq.mpr c7
        have c7b1 : ((t139.length : Int) != (l1.length : Int)) = false := bne_eq_false_iff_eq.mpr c7
        have c7b2 : (t139.length == l1.length) = true := by first | simpa using c7 | (simp at c7 ⊢; omega)
        clear c7
        (first | rw [c7b0] | (simp only [i64_w, i32_w]; rw [c7b0]) | skip)
        replace H := Option.bind_eq_some_iff.mp H
        obtain ⟨t144, A80, H⟩ := H
        replace H : (vitrinelaw02_HuffBest.j0 k a0 l1 t139 (t144 != 0)) = some r := H
        have A8 := Aside0.mk A80
        clear A80
        have H' := Aside0.mk H
        clear H
        obtain ⟨Ao9, co9, eo9⟩ := Kd.R_slice HO142.out
        subst eo9
        go_wp2_with (first | (go_at_call 34; (with_reducible refine (huff_Check.calls _ _ t139 t144 _ ?side1 ?side2 A8.out).mono ?_); (case side1 => repeat (first | exact (Kd.R_reads' HO142.out).2.2 | (with_reducible refine Kd.C_alloc ?_ _) | (with_reducible refine Kd.C_drewN ?_ _) | (with_reducible refine Kd.C_drew ?_))); (case side2 => exact (Kd.R_reads' HO142.out).2.1); rintro e w10 ⟨rfl, hb⟩; have n0_ := Aside0.mk (Kd.R_below (by (with_reducible repeat (first | apply Kd.R_alloc | apply Kd.R_drewN | apply Kd.R_drew)); exact HO142.out) hb); have n1_ := Aside0.mk (below_step (by repeat (first | (with_reducible first | exact HB.out | apply below_alloc | apply pw_below_drewN | apply below_drew1) | exact HB.out)) hb); clear HO142; clear HB; have HO142 := n0_; have HB := n1_; clear n0_ n1_; (try clear hb); (try clear hb2); (try clear hk); (try clear hi)))
        repeat (go_quiet (first | (go_at_call 34; (with_reducible refine (huff_Check.calls _ _ t139 t144 _ ?side1 ?side2 A8.out).mono ?_); (case side1 => repeat (first | exact (Kd.R_reads' HO142.out).2.2 | (with_reducible refine Kd.C_alloc ?_ _) | (with_reducible refine Kd.C_drewN ?_ _) | (with_reducible refine Kd.C_drew ?_))); (case side2 => exact (Kd.R_reads' HO142.out).2.1); rintro e w10 ⟨rfl, hb⟩; have n0_ := Aside0.mk (Kd.R_below (by (with_reducible repeat (first | apply Kd.R_alloc | apply Kd.R_drewN | apply Kd.R_drew)); exact HO142.out) hb); have n1_ := Aside0.mk (below_step (by repeat (first | (with_reducible first | exact HB.out | apply below_alloc | apply pw_below_drewN | apply below_drew1) | exact HB.out)) hb); clear HO142; clear HB; have HO142 := n0_; have HB := n1_; clear n0_ n1_; (try clear hb); (try clear hb2); (try clear hk); (try clear hi))); try go_wp2_with (first | (go_at_call 34; (with_reducible refine (huff_Check.calls _ _ t139 t144 _ ?side1 ?side2 A8.out).mono ?_); (case side1 => repeat (first | exact (Kd.R_reads' HO142.out).2.2 | (with_reducible refine Kd.C_alloc ?_ _) | (with_reducible refine Kd.C_drewN ?_ _) | (with_reducible refine Kd.C_drew ?_))); (case side2 => exact (Kd.R_reads' HO142.out).2.1); rintro e w10 ⟨rfl, hb⟩; have n0_ := Aside0.mk (Kd.R_below (by (with_reducible repeat (first | apply Kd.R_alloc | apply Kd.R_drewN | apply Kd.R_drew)); exact HO142.out) hb); have n1_ := Aside0.mk (below_step (by repeat (first | (with_reducible first | exact HB.out | apply below_alloc | apply pw_below_drewN | apply below_drew1) | exact HB.out)) hb); clear HO142; clear HB; have HO142 := n0_; have HB := n1_; clear n0_ n1_; (try clear hb); (try clear hb2); (try clear hk); (try clear hi))))
        go_meet
        case rel => exact ⟨_, ((t144 != 0)), (by first | rfl | (simp; done) | (simp [*]; done)), H', ⟨by first | omega | exact Nat.le_refl _⟩, ⟨by (with_reducible repeat (first | apply Kd.R_alloc | apply Kd.R_drewN | apply Kd.R_drew)); exact HO142.out⟩, ⟨by repeat (first | (with_reducible first | exact HB.out | apply below_alloc | apply pw_below_drewN | apply below_drew1) | exact HB.out)⟩⟩
      · rw [if_neg c7] at H
        have c7b0 : ((t139.length : Int) == (l1.length : Int)) = false := beq_eq_false_iff_ne.mpr c7
        have c7b1 : ((t139.length : Int) != (l1.length : Int)) = true := bne_iff_ne.mpr c7
        have c7b2 : (t139.length == l1.length) = false := by first | simpa using c7 | (simp at c7 ⊢; omega)
        (first | rw [c7b0] | (simp only [i64_w, i32_w]; rw [c7b0]) | skip)
        have H' := Aside0.mk H
        clear H
        obtain ⟨Ao11, co11, eo11⟩ := Kd.R_slice HO142.out
        subst eo11
        go_wp2
        repeat (go_quiet (fail); try go_wp2)
        go_meet
        case rel => exact ⟨_, (true), (by first | rfl | (simp; done) | (simp [*]; done)), H', ⟨by first | omega | exact Nat.le_refl _⟩, ⟨by (with_reducible repeat (first | apply Kd.R_alloc | apply Kd.R_drewN | apply Kd.R_drew)); exact HO142.out⟩, ⟨by repeat (first | (with_reducible first | exact HB.out | apply below_alloc | apply pw_below_drewN | apply below_drew1) | exact HB.out)⟩⟩
    case rest =>
      clear HC5
      try clear c1
      try clear p2
      try clear c4
      try clear c4b0
      try clear c4b1
      try clear c7
      try clear c7b0
      try clear c7b1
      try clear c7b2
      try clear c11
      obtain ⟨kq, x41_4, rfl, HA, HJ4, HO_5, HB⟩ := hcut
      cases kq with
      | zero => exact absurd HA.out (by simp [vitrinelaw02_HuffBest.j0])
      | succ kj4 =>
        have H := HA.out
        clear HA
        simp only [vitrinelaw02_HuffBest.j0] at H
        by_cases c12 : x41_4 = true
        · subst c12
          have H1 : (some false) = some r := by rw [if_pos rfl] at H; exact H
          clear H
          have H := H1
          clear H1
          obtain rfl := Option.some.inj H
          go_wp2
          repeat (go_quiet (fail); try go_wp2)
          go_ret
          exact ⟨by first | rfl | (simp [errW_none, errW_some] <;> rfl) | (simp [*, errW_none, errW_some] <;> rfl), by repeat (first | (with_reducible first | exact HB.out | apply below_alloc | apply pw_below_drewN | apply below_drew1) | exact HB.out)⟩
        · replace c12 := Bool.eq_false_iff.mpr c12
          subst c12
          have H1 : (vitrinelaw02_HuffBest.l0 kj4 a0 l1 t139 0 0) = some r := by rw [if_neg (show ¬ (false = true) by decide)] at H; exact H
          clear H
          have H := H1
          clear H1
          have H' := Aside0.mk H
          clear H
          go_wp2
          repeat (go_quiet (fail); try go_wp2)
          go_loopg [7, 8] kj4 (fun kq v7 v8 w' => ∃ (x7_2 : Int) (x8_2 : Int), v7 = .int .i64 x7_2 ∧ v8 = .int .i64 x8_2 ∧ Aside0 (vitrinelaw02_HuffBest.l0 kq a0 l1 t139 x7_2 x8_2 = some r) ∧ Aside0 (kq ≤ kj4) ∧ Aside0 (Kd.R (Kd.int .i64) 3 w' w.heap.size (fun _ => True) v141 t139) ∧ Aside0 (Below w.heap.size w w'))
          case atStart => exact ⟨(0), (0), (by first | rfl | (simp; done) | (simp [*]; done)), (by first | rfl | (simp; done) | (simp [*]; done)), H', ⟨Nat.le_refl _⟩, ⟨by (with_reducible repeat (first | apply Kd.R_alloc | apply Kd.R_drewN | apply Kd.R_drew)); exact HO_5.out⟩, ⟨by repeat (first | (with_reducible first | exact HB.out | apply below_alloc | apply pw_below_drewN | apply below_drew1) | exact HB.out)⟩⟩
          case round =>
            clear H'
            try clear c1
            try clear p2
            try clear c4
            try clear c4b0
            try clear c4b1
            try clear c7
            try clear c7b0
            try clear c7b1
            try clear c7b2
            try clear c11
            try clear c12
            try clear p2
            obtain ⟨x7_2, x8_2, rfl, rfl, HA, HK2, HO_5, HB⟩ := hrel
            cases gk with
            | zero => exact absurd HA.out (by simp [vitrinelaw02_HuffBest.l0])
            | succ k2 =>
              have H := HA.out
              clear HA
              simp only [vitrinelaw02_HuffBest.l0] at H
              by_cases c13 : x8_2 < (t139.length : Int)
              · rw [if_pos c13] at H
                have c13b0 : decide (x8_2 < (t139.length : Int)) = true := decide_eq_true c13
                clear c13
                have HC14 := Aside0.mk H
                clear H
                obtain ⟨Ao15, co15, eo15⟩ := Kd.R_slice HO_5.out
                subst eo15
                go_upto_region 10 with (fail)
                repeat (go_quiet (fail); go_upto_region 10 with (fail))
                go_cut [66] (fun v66 wc => ∃ (kq : Nat) (x66_13 : Bool), v66 = .bool x66_13 ∧ Aside0 (vitrinelaw02_HuffBest.j2 kq a0 l1 t139 x7_2 x8_2 x66_13 = some r) ∧ Aside0 (kq ≤ k2) ∧ Aside0 (Kd.R (Kd.int .i64) 3 wc w.heap.size (fun _ => True) (.slice Ao15 t139.length co15) t139) ∧ Aside0 (Below w.heap.size w wc))
                case first =>
                  have H := HC14.out
                  clear HC14
                  by_cases c16 : 0 ≤ x8_2
                  · rw [if_pos c16] at H
                    have c16b0 : decide (0 ≤ x8_2) = true := decide_eq_true c16
                    clear c16
                    (first | rw [c16b0] | (simp only [i64_w, i32_w]; rw [c16b0]) | skip)
                    by_cases c17 : x8_2 < (l1.length : Int)
                    · rw [if_pos c17] at H
                      have c17b0 : decide (x8_2 < (l1.length : Int)) = true := decide_eq_true c17
                      clear c17
                      by_cases c18 : ((decide ((rd t139 x8_2) > 0)) != (decide ((rd l1 x8_2) > 0))) = true
                      · rw [if_pos c18] at H
                        have c18b0 : ((decide ((rd t139 x8_2) > 0)) != (decide ((rd l1 x8_2) > 0))) = true := c18
                        (try (have c18b1 : decide ((decide ((rd t139 x8_2) > 0)) = (decide ((rd l1 x8_2) > 0))) = false := by simpa using c18))
                        (try (have c18b2 : ((decide ((rd t139 x8_2) > 0)) == (decide ((rd l1 x8_2) > 0))) = false := by simpa using c18))
                        (try (have c18b3 : ¬ ((decide ((rd t139 x8_2) > 0)) = (decide ((rd l1 x8_2) > 0))) := by simpa using c18))
                        clear c18
                        have H' := Aside0.mk H
                        clear H
                        have p145 : 0 ≤ (x8_2 : Int) := of_decide_eq_true (by first | (with_reducible assumption) | assumption)
                        have q145 : x8_2 < (t139.length : Int) := of_decide_eq_true (by first | (with_reducible assumption) | assumption)
                        obtain ⟨ad145, e145, hx145_0⟩ := Kd.at_int (Kd.R_reads' HO_5.out).2.2 x8_2 p145 q145
                        cases e145
                        replace p145 := eq_true p145
                        replace q145 := eq_true q145
                        have p146 : 0 ≤ (x8_2 : Int) := of_decide_eq_true (by first | (with_reducible assumption) | assumption)
                        have q146 : x8_2 < (l1.length : Int) := of_decide_eq_true (by first | (with_reducible assumption) | assumption)
                        obtain ⟨ad146, e146, hx146_0⟩ := Kd.at_int HR1.out x8_2 p146 q146
                        cases e146
                        replace hx146_0 := (HB.out.cell (World.block_lt_of_cell? w _ hx146_0)).trans hx146_0
                        replace p146 := eq_true p146
                        replace q146 := eq_true q146
                        go_wp2
                        repeat (go_quiet (fail); try go_wp2)
                        go_meet
                        case rel => exact ⟨_, (true), (by first | rfl | (simp; done) | (simp [*]; done)), H', ⟨by have := HJ4.out; have := HK2.out; first | omega | exact Nat.le_refl _⟩, ⟨by (with_reducible repeat (first | apply Kd.R_alloc | apply Kd.R_drewN | apply Kd.R_drew)); exact HO_5.out⟩, ⟨by repeat (first | (with_reducible first | exact HB.out | apply below_alloc | apply pw_below_drewN | apply below_drew1) | exact HB.out)⟩⟩
                      · rw [if_neg c18] at H
                        have c18b0 : ((decide ((rd t139 x8_2) > 0)) != (decide ((rd l1 x8_2) > 0))) = false := by simpa using c18
                        (try (have c18b1 : decide ((decide ((rd t139 x8_2) > 0)) = (decide ((rd l1 x8_2) > 0))) = true := by simpa using c18))
                        (try (have c18b2 : ((decide ((rd t139 x8_2) > 0)) == (decide ((rd l1 x8_2) > 0))) = true := by simpa using c18))
                        clear c18
                        have H' := Aside0.mk H
                        clear H
                        have p145 : 0 ≤ (x8_2 : Int) := of_decide_eq_true (by first | (with_reducible assumption) | assumption)
                        have q145 : x8_2 < (t139.length : Int) := of_decide_eq_true (by first | (with_reducible assumption) | assumption)
                        obtain ⟨ad145, e145, hx145_0⟩ := Kd.at_int (Kd.R_reads' HO_5.out).2.2 x8_2 p145 q145
                        cases e145
                        replace p145 := eq_true p145
                        replace q145 := eq_true q145
                        have p146 : 0 ≤ (x8_2 : Int) := of_decide_eq_true (by first | (with_reducible assumption) | assumption)
                        have q146 : x8_2 < (l1.length : Int) := of_decide_eq_true (by first | (with_reducible assumption) | assumption)
                        obtain ⟨ad146, e146, hx146_0⟩ := Kd.at_int HR1.out x8_2 p146 q146
                        cases e146
                        replace hx146_0 := (HB.out.cell (World.block_lt_of_cell? w _ hx146_0)).trans hx146_0
                        replace p146 := eq_true p146
                        replace q146 := eq_true q146
                        have p147 : 0 ≤ (x8_2 : Int) := of_decide_eq_true (by first | (with_reducible assumption) | assumption)
                        have q147 : x8_2 < (t139.length : Int) := of_decide_eq_true (by first | (with_reducible assumption) | assumption)
                        obtain ⟨ad147, e147, hx147_0⟩ := Kd.at_int (Kd.R_reads' HO_5.out).2.2 x8_2 p147 q147
                        obtain rfl : ad145 = ad147 := (by injection e147)
                        replace p147 := eq_true p147
                        replace q147 := eq_true q147
                        go_wp2
                        repeat (go_quiet (fail); try go_wp2)
                        go_meet
                        case rel => exact ⟨_, (decide ((rd t139 x8_2) > a0)), (by first | rfl | (simp; done) | (simp [*]; done)), H', ⟨by have := HJ4.out; have := HK2.out; first | omega | exact Nat.le_refl _⟩, ⟨by (with_reducible repeat (first | apply Kd.R_alloc | apply Kd.R_drewN | apply Kd.R_drew)); exact HO_5.out⟩, ⟨by repeat (first | (with_reducible first | exact HB.out | apply below_alloc | apply pw_below_drewN | apply below_drew1) | exact HB.out)⟩⟩
                    · rw [if_neg c17] at H
                      exact absurd H (by simp)
                  · rw [if_neg c16] at H
                    exact absurd H (by simp)
                case rest =>
                  clear HC14
                  try clear c1
                  try clear p1
                  try clear q1
                  try clear hx1
                  try clear p2
                  try clear c4
                  try clear c4b0
                  try clear c4b1
                  try clear c7
                  try clear c7b0
                  try clear c7b1
                  try clear c7b2
                  try clear c11
                  try clear c12
                  try clear c13
                  try clear c13b0
                  try clear p14
                  try clear q14
                  try clear hx14
                  try clear c16
                  try clear c16b0
                  try clear c17
                  try clear c17b0
                  try clear c18
                  try clear c18b0
                  try clear c18b1
                  try clear c18b2
                  try clear hx145_0
                  try clear hx146_0
                  try clear hx147_0
                  try clear p145
                  try clear p146
                  try clear p147
                  try clear p2
                  try clear q145
                  try clear q146
                  try clear q147
                  obtain ⟨kq, x66_13, rfl, HA, HJ13, HO_5, HB⟩ := hcut
                  cases kq with
                  | zero => exact absurd HA.out (by simp [vitrinelaw02_HuffBest.j2])
                  | succ kj13 =>
                    have H := HA.out
                    clear HA
                    simp only [vitrinelaw02_HuffBest.j2] at H
                    by_cases c19 : x66_13 = true
                    · subst c19
                      have H1 : (some false) = some r := by rw [if_pos rfl] at H; exact H
                      clear H
                      have H := H1
                      clear H1
                      obtain rfl := Option.some.inj H
                      go_wp2
                      repeat (go_quiet (fail); try go_wp2)
                      go_ret
                      exact ⟨by first | rfl | (simp [errW_none, errW_some] <;> rfl) | (simp [*, errW_none, errW_some] <;> rfl), by repeat (first | (with_reducible first | exact HB.out | apply below_alloc | apply pw_below_drewN | apply below_drew1) | exact HB.out)⟩
                    · replace c19 := Bool.eq_false_iff.mpr c19
                      subst c19
                      have H1 : (if 0 ≤ x8_2 then (if x8_2 < (t139.length : Int) then (if x8_2 < (l1.length : Int) then (vitrinelaw02_HuffBest.l1 kj13 a0 l1 t139 (wrap64 (x7_2 + (wrap64 ((rd t139 x8_2) * (rd l1 x8_2))))) x8_2 0) else (none)) else (none)) else (none)) = some r := by rw [if_neg (show ¬ (false = true) by decide)] at H; exact H
                      clear H
                      have H := H1
                      clear H1
                      by_cases c20 : 0 ≤ x8_2
                      · rw [if_pos c20] at H
                        have c20b0 : decide (0 ≤ x8_2) = true := decide_eq_true c20
                        clear c20
                        by_cases c21 : x8_2 < (t139.length : Int)
                        · rw [if_pos c21] at H
                          have c21b0 : decide (x8_2 < (t139.length : Int)) = true := decide_eq_true c21
                          clear c21
                          by_cases c22 : x8_2 < (l1.length : Int)
                          · rw [if_pos c22] at H
                            have c22b0 : decide (x8_2 < (l1.length : Int)) = true := decide_eq_true c22
                            clear c22
                            have H' := Aside0.mk H
                            clear H
                            have p148 : 0 ≤ (x8_2 : Int) := of_decide_eq_true (by first | (with_reducible assumption) | assumption)
                            have q148 : x8_2 < (t139.length : Int) := of_decide_eq_true (by first | (with_reducible assumption) | assumption)
                            obtain ⟨ad148, e148, hx148_0⟩ := Kd.at_int (Kd.R_reads' HO_5.out).2.2 x8_2 p148 q148
                            cases e148
                            replace p148 := eq_true p148
                            replace q148 := eq_true q148
                            have p149 : 0 ≤ (x8_2 : Int) := of_decide_eq_true (by first | (with_reducible assumption) | assumption)
                            have q149 : x8_2 < (l1.length : Int) := of_decide_eq_true (by first | (with_reducible assumption) | assumption)
                            obtain ⟨ad149, e149, hx149_0⟩ := Kd.at_int HR1.out x8_2 p149 q149
                            cases e149
                            replace hx149_0 := (HB.out.cell (World.block_lt_of_cell? w _ hx149_0)).trans hx149_0
                            replace p149 := eq_true p149
                            replace q149 := eq_true q149
                            go_wp2
                            repeat (go_quiet (fail); try go_wp2)
                            go_loopg [9] kj13 (fun kq v9 w' => ∃ (x9_4 : Int), v9 = .int .i64 x9_4 ∧ Aside0 (vitrinelaw02_HuffBest.l1 kq a0 l1 t139 (wrap64 (x7_2 + (wrap64 ((rd t139 x8_2) * (rd l1 x8_2))))) x8_2 x9_4 = some r) ∧ Aside0 (kq ≤ kj13) ∧ Aside0 (Kd.R (Kd.int .i64) 3 w' w.heap.size (fun _ => True) (.slice (some ad148) t139.length co15) t139) ∧ Aside0 (Below w.heap.size w w'))
                            case atStart => exact ⟨(0), (by first | rfl | (simp; done) | (simp [*]; done)), H', ⟨Nat.le_refl _⟩, ⟨by (with_reducible repeat (first | apply Kd.R_alloc | apply Kd.R_drewN | apply Kd.R_drew)); exact HO_5.out⟩, ⟨by repeat (first | (with_reducible first | exact HB.out | apply below_alloc | apply pw_below_drewN | apply below_drew1) | exact HB.out)⟩⟩
                            case round =>
                              clear H'
                              try clear c1
                              try clear p1
                              try clear q1
                              try clear hx1
                              try clear c2
                              try clear p2
                              try clear c4
                              try clear c4b0
                              try clear c4b1
                              try clear p6
                              try clear c7
                              try clear c7b0
                              try clear c7b1
                              try clear c7b2
                              try clear c11
                              try clear c12
                              try clear c13
                              try clear c13b0
                              try clear p14
                              try clear q14
                              try clear hx14
                              try clear c16
                              try clear c16b0
                              try clear c17
                              try clear c17b0
                              try clear c18
                              try clear c18b0
                              try clear c18b1
                              try clear c18b2
                              try clear c19
                              try clear c20
                              try clear c20b0
                              try clear c21
                              try clear c21b0
                              try clear c22
                              try clear c22b0
                              try clear hx145_0
                              try clear hx146_0
                              try clear hx147_0
                              try clear hx148_0
                              try clear hx149_0
                              try clear p1
                              try clear p14
                              try clear p145
                              try clear p146
                              try clear p147
                              try clear p148
                              try clear p149
                              try clear p2
                              try clear q1
                              try clear q14
                              try clear q145
                              try clear q146
                              try clear q147
                              try clear q148
                              try clear q149
                              obtain ⟨x9_4, rfl, HA, HK4, HO_5, HB⟩ := hrel
                              cases gk with
                              | zero => exact absurd HA.out (by simp [vitrinelaw02_HuffBest.l1])
                              | succ k4 =>
                                have H := HA.out
                                clear HA
                                simp only [vitrinelaw02_HuffBest.l1] at H
                                by_cases c23 : x9_4 < (t139.length : Int)
                                · rw [if_pos c23] at H
                                  have c23b0 : decide (x9_4 < (t139.length : Int)) = true := decide_eq_true c23
                                  clear c23
                                  by_cases c24 : 0 ≤ x8_2
                                  · rw [if_pos c24] at H
                                    have c24b0 : decide (0 ≤ x8_2) = true := decide_eq_true c24
                                    clear c24
                                    by_cases c25 : x8_2 < (l1.length : Int)
                                    · rw [if_pos c25] at H
                                      have c25b0 : decide (x8_2 < (l1.length : Int)) = true := decide_eq_true c25
                                      clear c25
                                      by_cases c26 : 0 ≤ x9_4
                                      · rw [if_pos c26] at H
                                        have c26b0 : decide (0 ≤ x9_4) = true := decide_eq_true c26
                                        clear c26
                                        by_cases c27 : x9_4 < (l1.length : Int)
                                        · rw [if_pos c27] at H
                                          have c27b0 : decide (x9_4 < (l1.length : Int)) = true := decide_eq_true c27
                                          clear c27
                                          by_cases c28 : (rd l1 x8_2) > (rd l1 x9_4)
                                          · rw [if_pos c28] at H
                                            have c28b0 : decide ((rd l1 x9_4) < (rd l1 x8_2)) = true := decide_eq_true c28
                                            clear c28
                                            by_cases c29 : (rd l1 x9_4) > 0
                                            · rw [if_pos c29] at H
                                              have c29b0 : decide (0 < (rd l1 x9_4)) = true := decide_eq_true c29
                                              clear c29
                                              by_cases c30 : x8_2 < (t139.length : Int)
                                              · rw [if_pos c30] at H
                                                have c30b0 : decide (x8_2 < (t139.length : Int)) = true := decide_eq_true c30
                                                clear c30
                                                by_cases c31 : (rd t139 x8_2) > (rd t139 x9_4)
                                                · rw [if_pos c31] at H
                                                  have c31b0 : decide ((rd t139 x9_4) < (rd t139 x8_2)) = true := decide_eq_true c31
                                                  clear c31
                                                  obtain rfl := Option.some.inj H
                                                  have p150 : 0 ≤ (x8_2 : Int) := of_decide_eq_true (by first | (with_reducible assumption) | assumption)
                                                  have q150 : x8_2 < (l1.length : Int) := of_decide_eq_true (by first | (with_reducible assumption) | assumption)
                                                  obtain ⟨ad150, e150, hx150_0⟩ := Kd.at_int HR1.out x8_2 p150 q150
                                                  obtain rfl : ad149 = ad150 := (by injection e150)
                                                  replace hx150_0 := (HB.out.cell (World.block_lt_of_cell? w _ hx150_0)).trans hx150_0
                                                  replace p150 := eq_true p150
                                                  replace q150 := eq_true q150
                                                  have p151 : 0 ≤ (x9_4 : Int) := of_decide_eq_true (by first | (with_reducible assumption) | assumption)
                                                  have q151 : x9_4 < (l1.length : Int) := of_decide_eq_true (by first | (with_reducible assumption) | assumption)
                                                  obtain ⟨ad151, e151, hx151_0⟩ := Kd.at_int HR1.out x9_4 p151 q151
                                                  obtain rfl : ad149 = ad151 := (by injection e151)
                                                  replace hx151_0 := (HB.out.cell (World.block_lt_of_cell? w _ hx151_0)).trans hx151_0
                                                  replace p151 := eq_true p151
                                                  replace q151 := eq_true q151
                                                  have p152 : 0 ≤ (x9_4 : Int) := of_decide_eq_true (by first | (with_reducible assumption) | assumption)
                                                  have q152 : x9_4 < (l1.length : Int) := of_decide_eq_true (by first | (with_reducible assumption) | assumption)
                                                  obtain ⟨ad152, e152, hx152_0⟩ := Kd.at_int HR1.out x9_4 p152 q152
                                                  obtain rfl : ad149 = ad152 := (by injection e152)
                                                  replace hx152_0 := (HB.out.cell (World.block_lt_of_cell? w _ hx152_0)).trans hx152_0
                                                  replace p152 := eq_true p152
                                                  replace q152 := eq_true q152
                                                  have p153 : 0 ≤ (x8_2 : Int) := of_decide_eq_true (by first | (with_reducible assumption) | assumption)
                                                  have q153 : x8_2 < (t139.length : Int) := of_decide_eq_true (by first | (with_reducible assumption) | assumption)
                                                  obtain ⟨ad153, e153, hx153_0⟩ := Kd.at_int (Kd.R_reads' HO_5.out).2.2 x8_2 p153 q153
                                                  obtain rfl : ad148 = ad153 := (by injection e153)
                                                  replace p153 := eq_true p153
                                                  replace q153 := eq_true q153
                                                  have p154 : 0 ≤ (x9_4 : Int) := of_decide_eq_true (by first | (with_reducible assumption) | assumption)
                                                  have q154 : x9_4 < (t139.length : Int) := of_decide_eq_true (by first | (with_reducible assumption) | assumption)
                                                  obtain ⟨ad154, e154, hx154_0⟩ := Kd.at_int (Kd.R_reads' HO_5.out).2.2 x9_4 p154 q154
                                                  obtain rfl : ad148 = ad154 := (by injection e154)
                                                  replace p154 := eq_true p154
                                                  replace q154 := eq_true q154
                                                  go_wp2
                                                  repeat (go_quiet (fail); try go_wp2)
                                                  go_ret
                                                  exact ⟨by first | rfl | (simp [errW_none, errW_some] <;> rfl) | (simp [*, errW_none, errW_some] <;> rfl), by repeat (first | (with_reducible first | exact HB.out | apply below_alloc | apply pw_below_drewN | apply below_drew1) | exact HB.out)⟩
                                                · rw [if_neg c31] at H
                                                  have c31b0 : decide ((rd t139 x9_4) < (rd t139 x8_2)) = false := decide_eq_false c31
                                                  clear c31
                                                  have H' := Aside0.mk H
                                                  clear H
                                                  have p150 : 0 ≤ (x8_2 : Int) := of_decide_eq_true (by first | (with_reducible assumption) | assumption)
                                                  have q150 : x8_2 < (l1.length : Int) := of_decide_eq_true (by first | (with_reducible assumption) | assumption)
                                                  obtain ⟨ad150, e150, hx150_0⟩ := Kd.at_int HR1.out x8_2 p150 q150
                                                  obtain rfl : ad149 = ad150 := (by injection e150)
                                                  replace hx150_0 := (HB.out.cell (World.block_lt_of_cell? w _ hx150_0)).trans hx150_0
                                                  replace p150 := eq_true p150
                                                  replace q150 := eq_true q150
                                                  have p151 : 0 ≤ (x9_4 : Int) := of_decide_eq_true (by first | (with_reducible assumption) | assumption)
                                                  have q151 : x9_4 < (l1.length : Int) := of_decide_eq_true (by first | (with_reducible assumption) | assumption)
                                                  obtain ⟨ad151, e151, hx151_0⟩ := Kd.at_int HR1.out x9_4 p151 q151
                                                  obtain rfl : ad149 = ad151 := (by injection e151)
                                                  replace hx151_0 := (HB.out.cell (World.block_lt_of_cell? w _ hx151_0)).trans hx151_0
                                                  replace p151 := eq_true p151
                                                  replace q151 := eq_true q151
                                                  have p152 : 0 ≤ (x9_4 : Int) := of_decide_eq_true (by first | (with_reducible assumption) | assumption)
                                                  have q152 : x9_4 < (l1.length : Int) := of_decide_eq_true (by first | (with_reducible assumption) | assumption)
                                                  obtain ⟨ad152, e152, hx152_0⟩ := Kd.at_int HR1.out x9_4 p152 q152
                                                  obtain rfl : ad149 = ad152 := (by injection e152)
                                                  replace hx152_0 := (HB.out.cell (World.block_lt_of_cell? w _ hx152_0)).trans hx152_0
                                                  replace p152 := eq_true p152
                                                  replace q152 := eq_true q152
                                                  have p153 : 0 ≤ (x8_2 : Int) := of_decide_eq_true (by first | (with_reducible assumption) | assumption)
                                                  have q153 : x8_2 < (t139.length : Int) := of_decide_eq_true (by first | (with_reducible assumption) | assumption)
                                                  obtain ⟨ad153, e153, hx153_0⟩ := Kd.at_int (Kd.R_reads' HO_5.out).2.2 x8_2 p153 q153
                                                  obtain rfl : ad148 = ad153 := (by injection e153)
                                                  replace p153 := eq_true p153
                                                  replace q153 := eq_true q153
                                                  have p154 : 0 ≤ (x9_4 : Int) := of_decide_eq_true (by first | (with_reducible assumption) | assumption)
                                                  have q154 : x9_4 < (t139.length : Int) := of_decide_eq_true (by first | (with_reducible assumption) | assumption)
                                                  obtain ⟨ad154, e154, hx154_0⟩ := Kd.at_int (Kd.R_reads' HO_5.out).2.2 x9_4 p154 q154
                                                  obtain rfl : ad148 = ad154 := (by injection e154)
                                                  replace p154 := eq_true p154
                                                  replace q154 := eq_true q154
                                                  go_wp2
                                                  repeat (go_quiet (fail); try go_wp2)
                                                  go_roundg k4
                                                  case measure => have := HJ4.out; have := HK2.out; have := HJ13.out; have := HK4.out; omega
                                                  case rel => exact ⟨(wrap64 (x9_4 + 1)), (by first | rfl | (simp; done) | (simp [*]; done)), H', ⟨by have := HJ4.out; have := HK2.out; have := HJ13.out; have := HK4.out; omega⟩, ⟨by (with_reducible repeat (first | apply Kd.R_alloc | apply Kd.R_drewN | apply Kd.R_drew)); exact HO_5.out⟩, ⟨by repeat (first | (with_reducible first | exact HB.out | apply below_alloc | apply pw_below_drewN | apply below_drew1) | exact HB.out)⟩⟩
                                              · rw [if_neg c30] at H
                                                exact absurd H (by simp)
                                            · rw [if_neg c29] at H
                                              have c29b0 : decide (0 < (rd l1 x9_4)) = false := decide_eq_false c29
                                              clear c29
                                              have H' := Aside0.mk H
                                              clear H
                                              have p150 : 0 ≤ (x8_2 : Int) := of_decide_eq_true (by first | (with_reducible assumption) | assumption)
                                              have q150 : x8_2 < (l1.length : Int) := of_decide_eq_true (by first | (with_reducible assumption) | assumption)
                                              obtain ⟨ad150, e150, hx150_0⟩ := Kd.at_int HR1.out x8_2 p150 q150
                                              obtain rfl : ad149 = ad150 := (by injection e150)
                                              replace hx150_0 := (HB.out.cell (World.block_lt_of_cell? w _ hx150_0)).trans hx150_0
                                              replace p150 := eq_true p150
                                              replace q150 := eq_true q150
                                              have p151 : 0 ≤ (x9_4 : Int) := of_decide_eq_true (by first | (with_reducible assumption) | assumption)
                                              have q151 : x9_4 < (l1.length : Int) := of_decide_eq_true (by first | (with_reducible assumption) | assumption)
                                              obtain ⟨ad151, e151, hx151_0⟩ := Kd.at_int HR1.out x9_4 p151 q151
                                              obtain rfl : ad149 = ad151 := (by injection e151)
                                              replace hx151_0 := (HB.out.cell (World.block_lt_of_cell? w _ hx151_0)).trans hx151_0
                                              replace p151 := eq_true p151
                                              replace q151 := eq_true q151
                                              have p152 : 0 ≤ (x9_4 : Int) := of_decide_eq_true (by first | (with_reducible assumption) | assumption)
                                              have q152 : x9_4 < (l1.length : Int) := of_decide_eq_true (by first | (with_reducible assumption) | assumption)
                                              obtain ⟨ad152, e152, hx152_0⟩ := Kd.at_int HR1.out x9_4 p152 q152
                                              obtain rfl : ad149 = ad152 := (by injection e152)
                                              replace hx152_0 := (HB.out.cell (World.block_lt_of_cell? w _ hx152_0)).trans hx152_0
                                              replace p152 := eq_true p152
                                              replace q152 := eq_true q152
                                              go_wp2
                                              repeat (go_quiet (fail); try go_wp2)
                                              go_roundg k4
                                              case measure => have := HJ4.out; have := HK2.out; have := HJ13.out; have := HK4.out; omega
                                              case rel => exact ⟨(wrap64 (x9_4 + 1)), (by first | rfl | (simp; done) | (simp [*]; done)), H', ⟨by have := HJ4.out; have := HK2.out; have := HJ13.out; have := HK4.out; omega⟩, ⟨by (with_reducible repeat (first | apply Kd.R_alloc | apply Kd.R_drewN | apply Kd.R_drew)); exact HO_5.out⟩, ⟨by repeat (first | (with_reducible first | exact HB.out | apply below_alloc | apply pw_below_drewN | apply below_drew1) | exact HB.out)⟩⟩
                                          · rw [if_neg c28] at H
                                            have c28b0 : decide ((rd l1 x9_4) < (rd l1 x8_2)) = false := decide_eq_false c28
                                            clear c28
                                            have H' := Aside0.mk H
                                            clear H
                                            have p150 : 0 ≤ (x8_2 : Int) := of_decide_eq_true (by first | (with_reducible assumption) | assumption)
                                            have q150 : x8_2 < (l1.length : Int) := of_decide_eq_true (by first | (with_reducible assumption) | assumption)
                                            obtain ⟨ad150, e150, hx150_0⟩ := Kd.at_int HR1.out x8_2 p150 q150
                                            obtain rfl : ad149 = ad150 := (by injection e150)
                                            replace hx150_0 := (HB.out.cell (World.block_lt_of_cell? w _ hx150_0)).trans hx150_0
                                            replace p150 := eq_true p150
                                            replace q150 := eq_true q150
                                            have p151 : 0 ≤ (x9_4 : Int) := of_decide_eq_true (by first | (with_reducible assumption) | assumption)
                                            have q151 : x9_4 < (l1.length : Int) := of_decide_eq_true (by first | (with_reducible assumption) | assumption)
                                            obtain ⟨ad151, e151, hx151_0⟩ := Kd.at_int HR1.out x9_4 p151 q151
                                            obtain rfl : ad149 = ad151 := (by injection e151)
                                            replace hx151_0 := (HB.out.cell (World.block_lt_of_cell? w _ hx151_0)).trans hx151_0
                                            replace p151 := eq_true p151
                                            replace q151 := eq_true q151
                                            go_wp2
                                            repeat (go_quiet (fail); try go_wp2)
                                            go_roundg k4
                                            case measure => have := HJ4.out; have := HK2.out; have := HJ13.out; have := HK4.out; omega
                                            case rel => exact ⟨(wrap64 (x9_4 + 1)), (by first | rfl | (simp; done) | (simp [*]; done)), H', ⟨by have := HJ4.out; have := HK2.out; have := HJ13.out; have := HK4.out; omega⟩, ⟨by (with_reducible repeat (first | apply Kd.R_alloc | apply Kd.R_drewN | apply Kd.R_drew)); exact HO_5.out⟩, ⟨by repeat (first | (with_reducible first | exact HB.out | apply below_alloc | apply pw_below_drewN | apply below_drew1) | exact HB.out)⟩⟩
                                        · rw [if_neg c27] at H
                                          exact absurd H (by simp)
                                      · rw [if_neg c26] at H
                                        exact absurd H (by simp)
                                    · rw [if_neg c25] at H
                                      exact absurd H (by simp)
                                  · rw [if_neg c24] at H
                                    exact absurd H (by simp)
                                · rw [if_neg c23] at H
                                  have c23b0 : decide (x9_4 < (t139.length : Int)) = false := decide_eq_false c23
                                  clear c23
                                  have H' := Aside0.mk H
                                  clear H
                                  go_wp2
                                  repeat (go_quiet (fail); try go_wp2)
                                  go_roundg k4
                                  case measure => have := HJ4.out; have := HK2.out; have := HJ13.out; have := HK4.out; omega
                                  case rel => exact ⟨((wrap64 (x7_2 + (wrap64 ((rd t139 x8_2) * (rd l1 x8_2)))))), (wrap64 (x8_2 + 1)), (by first | rfl | (simp; done) | (simp [*]; done)), (by first | rfl | (simp; done) | (simp [*]; done)), H', ⟨by have := HJ4.out; have := HK2.out; have := HJ13.out; have := HK4.out; omega⟩, ⟨by (with_reducible repeat (first | apply Kd.R_alloc | apply Kd.R_drewN | apply Kd.R_drew)); exact HO_5.out⟩, ⟨by repeat (first | (with_reducible first | exact HB.out | apply below_alloc | apply pw_below_drewN | apply below_drew1) | exact HB.out)⟩⟩
                          · rw [if_neg c22] at H
                            exact absurd H (by simp)
                        · rw [if_neg c21] at H
                          exact absurd H (by simp)
                      · rw [if_neg c20] at H
                        exact absurd H (by simp)
              · rw [if_neg c13] at H
                have c13b0 : decide (x8_2 < (t139.length : Int)) = false := decide_eq_false c13
                clear c13
                by_cases c32 : a0 < 15
                · rw [if_pos c32] at H
                  have c32b0 : decide (a0 < 15) = true := decide_eq_true c32
                  clear c32
                  replace H := Option.bind_eq_some_iff.mp H
                  obtain ⟨⟨t155, t156⟩, A330, H⟩ := H
                  replace H : (if t156 = 0 then (vitrinelaw02_HuffBest.j4 k2 l1 x7_2 t155 ((t155.length : Int) != (t139.length : Int))) else (vitrinelaw02_HuffBest.j4 k2 l1 x7_2 t155 true)) = some r := H
                  have A33 := Aside0.mk A330
                  clear A330
                  have HC34 := Aside0.mk H
                  clear H
                  obtain ⟨Ao35, co35, eo35⟩ := Kd.R_slice HO_5.out
                  subst eo35
                  go_upto_region 20 with (first | (go_at_call 40; (with_reducible refine (huff_Limit.calls (wrap64 (a0 + 1)) _ _ l1 t155 t156 _ ?side1 ?side2 A33.out).mono ?_); (case side1 => repeat (first | exact (Kd.C_below HR1.out HB.out) | (with_reducible refine Kd.C_alloc ?_ _) | (with_reducible refine Kd.C_drewN ?_ _) | (with_reducible refine Kd.C_drew ?_))); (case side2 => exact HC1.out); rintro e w36 ⟨v157, rfl, ho0, hb⟩; have n0_ := Aside0.mk (Kd.R_elder' (by (with_reducible repeat (first | apply Kd.R_alloc | apply Kd.R_drewN | apply Kd.R_drew)); exact HO_5.out) (Kd.R_base ho0) hb); have n1_ := Aside0.mk (Kd.R_lower (Kd.R_new' ho0 (Kd.R_lt (by (with_reducible repeat (first | apply Kd.R_alloc | apply Kd.R_drewN | apply Kd.R_drew)); exact HO_5.out))) (below_size (by repeat (first | (with_reducible first | exact HB.out | apply below_alloc | apply pw_below_drewN | apply below_drew1) | exact HB.out)))); have n2_ := Aside0.mk (below_step (by repeat (first | (with_reducible first | exact HB.out | apply below_alloc | apply pw_below_drewN | apply below_drew1) | exact HB.out)) hb); clear HO_5; clear HB; have HO_5 := n0_; have HO158 := n1_; have HB := n2_; clear n0_ n1_ n2_; (try clear hb); (try clear hb2); (try clear hk); (try clear hi); (try clear ho0)))
                  repeat (go_quiet (first | (go_at_call 40; (with_reducible refine (huff_Limit.calls (wrap64 (a0 + 1)) _ _ l1 t155 t156 _ ?side1 ?side2 A33.out).mono ?_); (case side1 => repeat (first | exact (Kd.C_below HR1.out HB.out) | (with_reducible refine Kd.C_alloc ?_ _) | (with_reducible refine Kd.C_drewN ?_ _) | (with_reducible refine Kd.C_drew ?_))); (case side2 => exact HC1.out); rintro e w36 ⟨v157, rfl, ho0, hb⟩; have n0_ := Aside0.mk (Kd.R_elder' (by (with_reducible repeat (first | apply Kd.R_alloc | apply Kd.R_drewN | apply Kd.R_drew)); exact HO_5.out) (Kd.R_base ho0) hb); have n1_ := Aside0.mk (Kd.R_lower (Kd.R_new' ho0 (Kd.R_lt (by (with_reducible repeat (first | apply Kd.R_alloc | apply Kd.R_drewN | apply Kd.R_drew)); exact HO_5.out))) (below_size (by repeat (first | (with_reducible first | exact HB.out | apply below_alloc | apply pw_below_drewN | apply below_drew1) | exact HB.out)))); have n2_ := Aside0.mk (below_step (by repeat (first | (with_reducible first | exact HB.out | apply below_alloc | apply pw_below_drewN | apply below_drew1) | exact HB.out)) hb); clear HO_5; clear HB; have HO_5 := n0_; have HO158 := n1_; have HB := n2_; clear n0_ n1_ n2_; (try clear hb); (try clear hb2); (try clear hk); (try clear hi); (try clear ho0))); go_upto_region 20 with (first | (go_at_call 40; (with_reducible refine (huff_Limit.calls (wrap64 (a0 + 1)) _ _ l1 t155 t156 _ ?side1 ?side2 A33.out).mono ?_); (case side1 => repeat (first | exact (Kd.C_below HR1.out HB.out) | (with_reducible refine Kd.C_alloc ?_ _) | (with_reducible refine Kd.C_drewN ?_ _) | (with_reducible refine Kd.C_drew ?_))); (case side2 => exact HC1.out); rintro e w36 ⟨v157, rfl, ho0, hb⟩; have n0_ := Aside0.mk (Kd.R_elder' (by (with_reducible repeat (first | apply Kd.R_alloc | apply Kd.R_drewN | apply Kd.R_drew)); exact HO_5.out) (Kd.R_base ho0) hb); have n1_ := Aside0.mk (Kd.R_lower (Kd.R_new' ho0 (Kd.R_lt (by (with_reducible repeat (first | apply Kd.R_alloc | apply Kd.R_drewN | apply Kd.R_drew)); exact HO_5.out))) (below_size (by repeat (first | (with_reducible first | exact HB.out | apply below_alloc | apply pw_below_drewN | apply below_drew1) | exact HB.out)))); have n2_ := Aside0.mk (below_step (by repeat (first | (with_reducible first | exact HB.out | apply below_alloc | apply pw_below_drewN | apply below_drew1) | exact HB.out)) hb); clear HO_5; clear HB; have HO_5 := n0_; have HO158 := n1_; have HB := n2_; clear n0_ n1_ n2_; (try clear hb); (try clear hb2); (try clear hk); (try clear hi); (try clear ho0))))
                  (try simp only [Act.put, List.setIfInBounds_toArray, List.set_cons_zero, List.set_cons_succ])
                  go_cut [128] (fun v128 wc => ∃ (kq : Nat) (x128_33 : Bool), v128 = .bool x128_33 ∧ Aside0 (vitrinelaw02_HuffBest.j4 kq l1 x7_2 t155 x128_33 = some r) ∧ Aside0 (kq ≤ k2) ∧ Aside0 (Kd.R (Kd.int .i64) 3 wc w.heap.size (fun _ => True) v157 t155) ∧ Aside0 (Below w.heap.size w wc))
                  case first =>
                    have H := HC34.out
                    clear HC34
                    by_cases c37 : t156 = 0
                    · rw [if_pos c37] at H
                      have c37b0 : (t156 == 0) = true := beq_iff_eq.mpr c37
                      have c37b1 : (t156 != 0) = false := bne_eq_false_iff_eq.mpr c37
                      clear c37
                      (first | rw [c37b0] | (simp only [i64_w, i32_w]; rw [c37b0]) | skip)
                      have H' := Aside0.mk H
                      clear H
                      obtain ⟨Ao38, co38, eo38⟩ := Kd.R_slice HO158.out
                      subst eo38
                      go_wp2
                      repeat (go_quiet (fail); try go_wp2)
                      go_meet
                      case rel => exact ⟨_, (((t155.length : Int) != (t139.length : Int))), (by first | rfl | (simp; done) | (simp [*]; done)), H', ⟨by have := HJ4.out; have := HK2.out; first | omega | exact Nat.le_refl _⟩, ⟨by (with_reducible repeat (first | apply Kd.R_alloc | apply Kd.R_drewN | apply Kd.R_drew)); exact Kd.R_mono HO158.out (fun _ hk => trivial)⟩, ⟨by repeat (first | (with_reducible first | exact HB.out | apply below_alloc | apply pw_below_drewN | apply below_drew1) | exact HB.out)⟩⟩
                    · rw [if_neg c37] at H
                      have c37b0 : (t156 == 0) = false := beq_eq_false_iff_ne.mpr c37
                      have c37b1 : (t156 != 0) = true := bne_iff_ne.mpr c37
                      (first | rw [c37b0] | (simp only [i64_w, i32_w]; rw [c37b0]) | skip)
                      have H' := Aside0.mk H
                      clear H
                      go_wp2
                      repeat (go_quiet (fail); try go_wp2)
                      go_meet
                      case rel => exact ⟨_, (true), (by first | rfl | (simp; done) | (simp [*]; done)), H', ⟨by have := HJ4.out; have := HK2.out; first | omega | exact Nat.le_refl _⟩, ⟨by (with_reducible repeat (first | apply Kd.R_alloc | apply Kd.R_drewN | apply Kd.R_drew)); exact Kd.R_mono HO158.out (fun _ hk => trivial)⟩, ⟨by repeat (first | (with_reducible first | exact HB.out | apply below_alloc | apply pw_below_drewN | apply below_drew1) | exact HB.out)⟩⟩
                  case rest =>
                    clear HC34
                    try clear c1
                    try clear p1
                    try clear q1
                    try clear hx1
                    try clear c2
                    try clear p2
                    try clear c3
                    try clear c4
                    try clear c4b0
                    try clear c4b1
                    try clear p6
                    try clear c7
                    try clear c7b0
                    try clear c7b1
                    try clear c7b2
                    try clear c11
                    try clear c12
                    try clear c13
                    try clear c13b0
                    try clear p14
                    try clear q14
                    try clear hx14
                    try clear p15
                    try clear q15
                    try clear hx15
                    try clear c16
                    try clear c16b0
                    try clear c17
                    try clear c17b0
                    try clear c18
                    try clear c18b0
                    try clear c18b1
                    try clear c18b2
                    try clear c19
                    try clear c20
                    try clear c20b0
                    try clear c21
                    try clear c21b0
                    try clear c22
                    try clear c22b0
                    try clear c23
                    try clear c23b0
                    try clear c24
                    try clear c24b0
                    try clear c25
                    try clear c25b0
                    try clear c26
                    try clear c26b0
                    try clear c27
                    try clear c27b0
                    try clear c28
                    try clear c28b0
                    try clear c29
                    try clear c29b0
                    try clear c30
                    try clear c30b0
                    try clear c31
                    try clear c31b0
                    try clear c32
                    try clear c32b0
                    try clear c37
                    try clear c37b0
                    try clear c37b1
                    try clear hx145_0
                    try clear hx146_0
                    try clear hx147_0
                    try clear hx148_0
                    try clear hx149_0
                    try clear hx150_0
                    try clear hx151_0
                    try clear hx152_0
                    try clear hx153_0
                    try clear hx154_0
                    try clear p1
                    try clear p14
                    try clear p145
                    try clear p146
                    try clear p147
                    try clear p148
                    try clear p149
                    try clear p150
                    try clear p151
                    try clear p152
                    try clear p153
                    try clear p154
                    try clear p2
                    try clear p6
                    try clear q1
                    try clear q14
                    try clear q145
                    try clear q146
                    try clear q147
                    try clear q148
                    try clear q149
                    try clear q150
                    try clear q151
                    try clear q152
                    try clear q153
                    try clear q154
                    obtain ⟨kq, x128_33, rfl, HA, HJ33, HO_10, HB⟩ := hcut
                    cases kq with
                    | zero => exact absurd HA.out (by simp [vitrinelaw02_HuffBest.j4])
                    | succ kj33 =>
                      have H := HA.out
                      clear HA
                      simp only [vitrinelaw02_HuffBest.j4] at H
                      by_cases c39 : x128_33 = true
                      · subst c39
                        have H1 : (some false) = some r := by rw [if_pos rfl] at H; exact H
                        clear H
                        have H := H1
                        clear H1
                        obtain rfl := Option.some.inj H
                        go_wp2
                        repeat (go_quiet (fail); try go_wp2)
                        go_ret
                        exact ⟨by first | rfl | (simp [errW_none, errW_some] <;> rfl) | (simp [*, errW_none, errW_some] <;> rfl), by repeat (first | (with_reducible first | exact HB.out | apply below_alloc | apply pw_below_drewN | apply below_drew1) | exact HB.out)⟩
                      · replace c39 := Bool.eq_false_iff.mpr c39
                        subst c39
                        have H1 : (vitrinelaw02_HuffBest.l2 kj33 l1 x7_2 t155 0 0) = some r := by rw [if_neg (show ¬ (false = true) by decide)] at H; exact H
                        clear H
                        have H := H1
                        clear H1
                        have H' := Aside0.mk H
                        clear H
                        go_wp2
                        repeat (go_quiet (fail); try go_wp2)
                        go_loopg [12, 13] kj33 (fun kq v12 v13 w' => ∃ (x12_4 : Int) (x13_4 : Int), v12 = .int .i64 x12_4 ∧ v13 = .int .i64 x13_4 ∧ Aside0 (vitrinelaw02_HuffBest.l2 kq l1 x7_2 t155 x12_4 x13_4 = some r) ∧ Aside0 (kq ≤ kj33) ∧ Aside0 (Kd.R (Kd.int .i64) 3 w' w.heap.size (fun _ => True) v157 t155) ∧ Aside0 (Below w.heap.size w w'))
                        case atStart => exact ⟨(0), (0), (by first | rfl | (simp; done) | (simp [*]; done)), (by first | rfl | (simp; done) | (simp [*]; done)), H', ⟨Nat.le_refl _⟩, ⟨by (with_reducible repeat (first | apply Kd.R_alloc | apply Kd.R_drewN | apply Kd.R_drew)); exact HO_10.out⟩, ⟨by repeat (first | (with_reducible first | exact HB.out | apply below_alloc | apply pw_below_drewN | apply below_drew1) | exact HB.out)⟩⟩
                        case round =>
                          clear H'
                          try clear c1
                          try clear p1
                          try clear q1
                          try clear hx1
                          try clear c2
                          try clear p2
                          try clear c3
                          try clear c4
                          try clear c4b0
                          try clear c4b1
                          try clear p6
                          try clear c7
                          try clear c7b0
                          try clear c7b1
                          try clear c7b2
                          try clear c11
                          try clear c12
                          try clear c13
                          try clear c13b0
                          try clear p14
                          try clear q14
                          try clear hx14
                          try clear p15
                          try clear q15
                          try clear hx15
                          try clear c16
                          try clear c16b0
                          try clear c17
                          try clear c17b0
                          try clear c18
                          try clear c18b0
                          try clear c18b1
                          try clear c18b2
                          try clear c19
                          try clear c20
                          try clear c20b0
                          try clear c21
                          try clear c21b0
                          try clear c22
                          try clear c22b0
                          try clear c23
                          try clear c23b0
                          try clear c24
                          try clear c24b0
                          try clear c25
                          try clear c25b0
                          try clear c26
                          try clear c26b0
                          try clear c27
                          try clear c27b0
                          try clear c28
                          try clear c28b0
                          try clear c29
                          try clear c29b0
                          try clear c30
                          try clear c30b0
                          try clear c31
                          try clear c31b0
                          try clear c32
                          try clear c32b0
                          try clear c37
                          try clear c37b0
                          try clear c37b1
                          try clear c39
                          try clear hx145_0
                          try clear hx146_0
                          try clear hx147_0
                          try clear hx148_0
                          try clear hx149_0
                          try clear hx150_0
                          try clear hx151_0
                          try clear hx152_0
                          try clear hx153_0
                          try clear hx154_0
                          try clear p1
                          try clear p14
                          try clear p145
                          try clear p146
                          try clear p147
                          try clear p148
                          try clear p149
                          try clear p15
                          try clear p150
                          try clear p151
                          try clear p152
                          try clear p153
                          try clear p154
                          try clear p2
                          try clear p6
                          try clear q1
                          try clear q14
                          try clear q145
                          try clear q146
                          try clear q147
                          try clear q148
                          try clear q149
                          try clear q15
                          try clear q150
                          try clear q151
                          try clear q152
                          try clear q153
                          try clear q154
                          obtain ⟨x12_4, x13_4, rfl, rfl, HA, HK4, HO_10, HB⟩ := hrel
                          cases gk with
                          | zero => exact absurd HA.out (by simp [vitrinelaw02_HuffBest.l2])
                          | succ k4 =>
                            have H := HA.out
                            clear HA
                            simp only [vitrinelaw02_HuffBest.l2] at H
                            by_cases c40 : x13_4 < (t155.length : Int)
                            · rw [if_pos c40] at H
                              have c40b0 : decide (x13_4 < (t155.length : Int)) = true := decide_eq_true c40
                              clear c40
                              by_cases c41 : 0 ≤ x13_4
                              · rw [if_pos c41] at H
                                have c41b0 : decide (0 ≤ x13_4) = true := decide_eq_true c41
                                clear c41
                                by_cases c42 : x13_4 < (l1.length : Int)
                                · rw [if_pos c42] at H
                                  have c42b0 : decide (x13_4 < (l1.length : Int)) = true := decide_eq_true c42
                                  clear c42
                                  have H' := Aside0.mk H
                                  clear H
                                  obtain ⟨Ao43, co43, eo43⟩ := Kd.R_slice HO_10.out
                                  subst eo43
                                  have p159 : 0 ≤ (x13_4 : Int) := of_decide_eq_true (by first | (with_reducible assumption) | assumption)
                                  have q159 : x13_4 < (t155.length : Int) := of_decide_eq_true (by first | (with_reducible assumption) | assumption)
                                  obtain ⟨ad159, e159, hx159_0⟩ := Kd.at_int (Kd.R_reads' HO_10.out).2.2 x13_4 p159 q159
                                  cases e159
                                  replace p159 := eq_true p159
                                  replace q159 := eq_true q159
                                  have p160 : 0 ≤ (x13_4 : Int) := of_decide_eq_true (by first | (with_reducible assumption) | assumption)
                                  have q160 : x13_4 < (l1.length : Int) := of_decide_eq_true (by first | (with_reducible assumption) | assumption)
                                  obtain ⟨ad160, e160, hx160_0⟩ := Kd.at_int HR1.out x13_4 p160 q160
                                  cases e160
                                  replace hx160_0 := (HB.out.cell (World.block_lt_of_cell? w _ hx160_0)).trans hx160_0
                                  replace p160 := eq_true p160
                                  replace q160 := eq_true q160
                                  go_wp2
                                  repeat (go_quiet (fail); try go_wp2)
                                  go_roundg k4
                                  case measure => have := HJ4.out; have := HK2.out; have := HJ33.out; have := HK4.out; omega
                                  case rel => exact ⟨(wrap64 (x12_4 + (wrap64 ((rd t155 x13_4) * (rd l1 x13_4))))), (wrap64 (x13_4 + 1)), (by first | rfl | (simp; done) | (simp [*]; done)), (by first | rfl | (simp; done) | (simp [*]; done)), H', ⟨by have := HJ4.out; have := HK2.out; have := HJ33.out; have := HK4.out; omega⟩, ⟨by (with_reducible repeat (first | apply Kd.R_alloc | apply Kd.R_drewN | apply Kd.R_drew)); exact HO_10.out⟩, ⟨by repeat (first | (with_reducible first | exact HB.out | apply below_alloc | apply pw_below_drewN | apply below_drew1) | exact HB.out)⟩⟩
                                · rw [if_neg c42] at H
                                  exact absurd H (by simp)
                              · rw [if_neg c41] at H
                                exact absurd H (by simp)
                            · rw [if_neg c40] at H
                              have c40b0 : decide (x13_4 < (t155.length : Int)) = false := decide_eq_false c40
                              clear c40
                              by_cases c44 : x12_4 ≤ x7_2
                              · rw [if_pos c44] at H
                                have c44b0 : decide (x12_4 ≤ x7_2) = true := decide_eq_true c44
                                clear c44
                                replace H := Option.bind_eq_some_iff.mp H
                                obtain ⟨t161, A450, H⟩ := H
                                replace H : (some t161) = some r := H
                                have A45 := Aside0.mk A450
                                clear A450
                                obtain rfl := Option.some.inj H
                                obtain ⟨Ao46, co46, eo46⟩ := Kd.R_slice HO_10.out
                                subst eo46
                                go_wp2_with (first | (go_at_call 36; (with_reducible refine (vitrinelaw02_awake.calls  t161 _ A45.out).mono ?_); rintro e w47 ⟨rfl, hb⟩; have n0_ := Aside0.mk (Kd.R_below (by (with_reducible repeat (first | apply Kd.R_alloc | apply Kd.R_drewN | apply Kd.R_drew)); exact HO_10.out) hb); have n1_ := Aside0.mk (below_step (by repeat (first | (with_reducible first | exact HB.out | apply below_alloc | apply pw_below_drewN | apply below_drew1) | exact HB.out)) hb); clear HO_10; clear HB; have HO_10 := n0_; have HB := n1_; clear n0_ n1_; (try clear hb); (try clear hb2); (try clear hk); (try clear hi)))
                                repeat (go_quiet (first | (go_at_call 36; (with_reducible refine (vitrinelaw02_awake.calls  t161 _ A45.out).mono ?_); rintro e w47 ⟨rfl, hb⟩; have n0_ := Aside0.mk (Kd.R_below (by (with_reducible repeat (first | apply Kd.R_alloc | apply Kd.R_drewN | apply Kd.R_drew)); exact HO_10.out) hb); have n1_ := Aside0.mk (below_step (by repeat (first | (with_reducible first | exact HB.out | apply below_alloc | apply pw_below_drewN | apply below_drew1) | exact HB.out)) hb); clear HO_10; clear HB; have HO_10 := n0_; have HB := n1_; clear n0_ n1_; (try clear hb); (try clear hb2); (try clear hk); (try clear hi))); try go_wp2_with (first | (go_at_call 36; (with_reducible refine (vitrinelaw02_awake.calls  t161 _ A45.out).mono ?_); rintro e w47 ⟨rfl, hb⟩; have n0_ := Aside0.mk (Kd.R_below (by (with_reducible repeat (first | apply Kd.R_alloc | apply Kd.R_drewN | apply Kd.R_drew)); exact HO_10.out) hb); have n1_ := Aside0.mk (below_step (by repeat (first | (with_reducible first | exact HB.out | apply below_alloc | apply pw_below_drewN | apply below_drew1) | exact HB.out)) hb); clear HO_10; clear HB; have HO_10 := n0_; have HB := n1_; clear n0_ n1_; (try clear hb); (try clear hb2); (try clear hk); (try clear hi))))
                                go_ret
                                exact ⟨by first | rfl | (simp [errW_none, errW_some] <;> rfl) | (simp [*, errW_none, errW_some] <;> rfl), by repeat (first | (with_reducible first | exact HB.out | apply below_alloc | apply pw_below_drewN | apply below_drew1) | exact HB.out)⟩
                              · rw [if_neg c44] at H
                                have c44b0 : decide (x12_4 ≤ x7_2) = false := decide_eq_false c44
                                clear c44
                                obtain rfl := Option.some.inj H
                                obtain ⟨Ao48, co48, eo48⟩ := Kd.R_slice HO_10.out
                                subst eo48
                                go_wp2
                                repeat (go_quiet (fail); try go_wp2)
                                go_ret
                                exact ⟨by first | rfl | (simp [errW_none, errW_some] <;> rfl) | (simp [*, errW_none, errW_some] <;> rfl), by repeat (first | (with_reducible first | exact HB.out | apply below_alloc | apply pw_below_drewN | apply below_drew1) | exact HB.out)⟩
                · rw [if_neg c32] at H
                  have c32b0 : decide (a0 < 15) = false := decide_eq_false c32
                  clear c32
                  replace H := Option.bind_eq_some_iff.mp H
                  obtain ⟨t162, A490, H⟩ := H
                  replace H : (some t162) = some r := H
                  have A49 := Aside0.mk A490
                  clear A490
                  obtain rfl := Option.some.inj H
                  obtain ⟨Ao50, co50, eo50⟩ := Kd.R_slice HO_5.out
                  subst eo50
                  go_wp2_with (first | (go_at_call 36; (with_reducible refine (vitrinelaw02_awake.calls  t162 _ A49.out).mono ?_); rintro e w51 ⟨rfl, hb⟩; have n0_ := Aside0.mk (Kd.R_below (by (with_reducible repeat (first | apply Kd.R_alloc | apply Kd.R_drewN | apply Kd.R_drew)); exact HO_5.out) hb); have n1_ := Aside0.mk (below_step (by repeat (first | (with_reducible first | exact HB.out | apply below_alloc | apply pw_below_drewN | apply below_drew1) | exact HB.out)) hb); clear HO_5; clear HB; have HO_5 := n0_; have HB := n1_; clear n0_ n1_; (try clear hb); (try clear hb2); (try clear hk); (try clear hi)))
                  repeat (go_quiet (first | (go_at_call 36; (with_reducible refine (vitrinelaw02_awake.calls  t162 _ A49.out).mono ?_); rintro e w51 ⟨rfl, hb⟩; have n0_ := Aside0.mk (Kd.R_below (by (with_reducible repeat (first | apply Kd.R_alloc | apply Kd.R_drewN | apply Kd.R_drew)); exact HO_5.out) hb); have n1_ := Aside0.mk (below_step (by repeat (first | (with_reducible first | exact HB.out | apply below_alloc | apply pw_below_drewN | apply below_drew1) | exact HB.out)) hb); clear HO_5; clear HB; have HO_5 := n0_; have HB := n1_; clear n0_ n1_; (try clear hb); (try clear hb2); (try clear hk); (try clear hi))); try go_wp2_with (first | (go_at_call 36; (with_reducible refine (vitrinelaw02_awake.calls  t162 _ A49.out).mono ?_); rintro e w51 ⟨rfl, hb⟩; have n0_ := Aside0.mk (Kd.R_below (by (with_reducible repeat (first | apply Kd.R_alloc | apply Kd.R_drewN | apply Kd.R_drew)); exact HO_5.out) hb); have n1_ := Aside0.mk (below_step (by repeat (first | (with_reducible first | exact HB.out | apply below_alloc | apply pw_below_drewN | apply below_drew1) | exact HB.out)) hb); clear HO_5; clear HB; have HO_5 := n0_; have HB := n1_; clear n0_ n1_; (try clear hb); (try clear hb2); (try clear hk); (try clear hi))))
                  go_ret
                  exact ⟨by first | rfl | (simp [errW_none, errW_some] <;> rfl) | (simp [*, errW_none, errW_some] <;> rfl), by repeat (first | (with_reducible first | exact HB.out | apply below_alloc | apply pw_below_drewN | apply below_drew1) | exact HB.out)⟩
  · rw [if_neg c4] at H
    have c4b0 : (t140 == 0) = false := beq_eq_false_iff_ne.mpr c4
    have c4b1 : (t140 != 0) = true := bne_iff_ne.mpr c4
    by_cases c52 : t140 = 1
    · rw [if_pos c52] at H
      have c52b0 : (t140 == 1) = true := beq_iff_eq.mpr c52
      have c52b1 : (t140 != 1) = false := bne_eq_false_iff_eq.mpr c52
      clear c52
      by_cases c53 : (t139.length : Int) = 0
      · rw [if_pos c53] at H
        have c53b0 : ((t139.length : Int) == 0) = true := beq_iff_eq.mpr c53
        have c53b1 : ((t139.length : Int) != 0) = false := bne_eq_false_iff_eq.mpr c53
        clear c53
        replace H := Option.bind_eq_some_iff.mp H
        obtain ⟨t143, A540, H⟩ := H
        replace H : (some t143) = some r := H
        have A54 := Aside0.mk A540
        clear A540
        obtain rfl := Option.some.inj H
        go_enter Try.func11, Try.ntmps11
        go_wp2_with (first | (go_at_call 40; (with_reducible refine (huff_Limit.calls a0 _ _ l1 t139 t140 _ ?side1 ?side2 A3.out).mono ?_); (case side1 => repeat (first | exact HR1.out | (with_reducible refine Kd.C_alloc ?_ _) | (with_reducible refine Kd.C_drewN ?_ _) | (with_reducible refine Kd.C_drew ?_))); (case side2 => exact HC1.out); rintro e w55 ⟨v141, rfl, ho0, hb⟩; have n0_ := Aside0.mk (Kd.R_lower ho0 (below_size (by repeat (first | (with_reducible first | exact HB.out | apply below_alloc | apply pw_below_drewN | apply below_drew1) | exact HB.out)))); have n1_ := Aside0.mk (below_step (by repeat (first | (with_reducible first | exact HB.out | apply below_alloc | apply pw_below_drewN | apply below_drew1) | exact HB.out)) hb); clear HB; have HO142 := n0_; have HB := n1_; clear n0_ n1_; (try clear hb); (try clear hb2); (try clear hk); (try clear hi); (try clear ho0); obtain ⟨Ao56, co56, eo56⟩ := Kd.R_slice HO142.out; subst eo56) | (go_at_call 36; (with_reducible refine (vitrinelaw02_awake.calls  t143 _ A54.out).mono ?_); rintro e w57 ⟨rfl, hb⟩; have n0_ := Aside0.mk (Kd.R_below (by (with_reducible repeat (first | apply Kd.R_alloc | apply Kd.R_drewN | apply Kd.R_drew)); exact HO142.out) hb); have n1_ := Aside0.mk (below_step (by repeat (first | (with_reducible first | exact HB.out | apply below_alloc | apply pw_below_drewN | apply below_drew1) | exact HB.out)) hb); clear HO142; clear HB; have HO142 := n0_; have HB := n1_; clear n0_ n1_; (try clear hb); (try clear hb2); (try clear hk); (try clear hi)))
        repeat (go_quiet (first | (go_at_call 40; (with_reducible refine (huff_Limit.calls a0 _ _ l1 t139 t140 _ ?side1 ?side2 A3.out).mono ?_); (case side1 => repeat (first | exact HR1.out | (with_reducible refine Kd.C_alloc ?_ _) | (with_reducible refine Kd.C_drewN ?_ _) | (with_reducible refine Kd.C_drew ?_))); (case side2 => exact HC1.out); rintro e w55 ⟨v141, rfl, ho0, hb⟩; have n0_ := Aside0.mk (Kd.R_lower ho0 (below_size (by repeat (first | (with_reducible first | exact HB.out | apply below_alloc | apply pw_below_drewN | apply below_drew1) | exact HB.out)))); have n1_ := Aside0.mk (below_step (by repeat (first | (with_reducible first | exact HB.out | apply below_alloc | apply pw_below_drewN | apply below_drew1) | exact HB.out)) hb); clear HB; have HO142 := n0_; have HB := n1_; clear n0_ n1_; (try clear hb); (try clear hb2); (try clear hk); (try clear hi); (try clear ho0); obtain ⟨Ao56, co56, eo56⟩ := Kd.R_slice HO142.out; subst eo56) | (go_at_call 36; (with_reducible refine (vitrinelaw02_awake.calls  t143 _ A54.out).mono ?_); rintro e w57 ⟨rfl, hb⟩; have n0_ := Aside0.mk (Kd.R_below (by (with_reducible repeat (first | apply Kd.R_alloc | apply Kd.R_drewN | apply Kd.R_drew)); exact HO142.out) hb); have n1_ := Aside0.mk (below_step (by repeat (first | (with_reducible first | exact HB.out | apply below_alloc | apply pw_below_drewN | apply below_drew1) | exact HB.out)) hb); clear HO142; clear HB; have HO142 := n0_; have HB := n1_; clear n0_ n1_; (try clear hb); (try clear hb2); (try clear hk); (try clear hi))); try go_wp2_with (first | (go_at_call 40; (with_reducible refine (huff_Limit.calls a0 _ _ l1 t139 t140 _ ?side1 ?side2 A3.out).mono ?_); (case side1 => repeat (first | exact HR1.out | (with_reducible refine Kd.C_alloc ?_ _) | (with_reducible refine Kd.C_drewN ?_ _) | (with_reducible refine Kd.C_drew ?_))); (case side2 => exact HC1.out); rintro e w55 ⟨v141, rfl, ho0, hb⟩; have n0_ := Aside0.mk (Kd.R_lower ho0 (below_size (by repeat (first | (with_reducible first | exact HB.out | apply below_alloc | apply pw_below_drewN | apply below_drew1) | exact HB.out)))); have n1_ := Aside0.mk (below_step (by repeat (first | (with_reducible first | exact HB.out | apply below_alloc | apply pw_below_drewN | apply below_drew1) | exact HB.out)) hb); clear HB; have HO142 := n0_; have HB := n1_; clear n0_ n1_; (try clear hb); (try clear hb2); (try clear hk); (try clear hi); (try clear ho0); obtain ⟨Ao56, co56, eo56⟩ := Kd.R_slice HO142.out; subst eo56) | (go_at_call 36; (with_reducible refine (vitrinelaw02_awake.calls  t143 _ A54.out).mono ?_); rintro e w57 ⟨rfl, hb⟩; have n0_ := Aside0.mk (Kd.R_below (by (with_reducible repeat (first | apply Kd.R_alloc | apply Kd.R_drewN | apply Kd.R_drew)); exact HO142.out) hb); have n1_ := Aside0.mk (below_step (by repeat (first | (with_reducible first | exact HB.out | apply below_alloc | apply pw_below_drewN | apply below_drew1) | exact HB.out)) hb); clear HO142; clear HB; have HO142 := n0_; have HB := n1_; clear n0_ n1_; (try clear hb); (try clear hb2); (try clear hk); (try clear hi))))
        go_ret
        exact ⟨by first | rfl | (simp [errW_none, errW_some] <;> rfl) | (simp [*, errW_none, errW_some] <;> rfl), by repeat (first | (with_reducible first | exact HB.out | apply below_alloc | apply pw_below_drewN | apply below_drew1) | exact HB.out)⟩
      · rw [if_neg c53] at H
        have c53b0 : ((t139.length : Int) == 0) = false := beq_eq_false_iff_ne.mpr c53
        have c53b1 : ((t139.length : Int) != 0) = true := bne_iff_ne.mpr c53
        have c53b2 : ¬ (t139 = []) := fun h_ => c53 (by rw [h_]; rfl)
        obtain rfl := Option.some.inj H
        go_enter Try.func11, Try.ntmps11
        go_wp2_with (first | (go_at_call 40; (with_reducible refine (huff_Limit.calls a0 _ _ l1 t139 t140 _ ?side1 ?side2 A3.out).mono ?_); (case side1 => repeat (first | exact HR1.out | (with_reducible refine Kd.C_alloc ?_ _) | (with_reducible refine Kd.C_drewN ?_ _) | (with_reducible refine Kd.C_drew ?_))); (case side2 => exact HC1.out); rintro e w58 ⟨v141, rfl, ho0, hb⟩; have n0_ := Aside0.mk (Kd.R_lower ho0 (below_size (by repeat (first | (with_reducible first | exact HB.out | apply below_alloc | apply pw_below_drewN | apply below_drew1) | exact HB.out)))); have n1_ := Aside0.mk (below_step (by repeat (first | (with_reducible first | exact HB.out | apply below_alloc | apply pw_below_drewN | apply below_drew1) | exact HB.out)) hb); clear HB; have HO142 := n0_; have HB := n1_; clear n0_ n1_; (try clear hb); (try clear hb2); (try clear hk); (try clear hi); (try clear ho0); obtain ⟨Ao59, co59, eo59⟩ := Kd.R_slice HO142.out; subst eo59))
        repeat (go_quiet (first | (go_at_call 40; (with_reducible refine (huff_Limit.calls a0 _ _ l1 t139 t140 _ ?side1 ?side2 A3.out).mono ?_); (case side1 => repeat (first | exact HR1.out | (with_reducible refine Kd.C_alloc ?_ _) | (with_reducible refine Kd.C_drewN ?_ _) | (with_reducible refine Kd.C_drew ?_))); (case side2 => exact HC1.out); rintro e w58 ⟨v141, rfl, ho0, hb⟩; have n0_ := Aside0.mk (Kd.R_lower ho0 (below_size (by repeat (first | (with_reducible first | exact HB.out | apply below_alloc | apply pw_below_drewN | apply below_drew1) | exact HB.out)))); have n1_ := Aside0.mk (below_step (by repeat (first | (with_reducible first | exact HB.out | apply below_alloc | apply pw_below_drewN | apply below_drew1) | exact HB.out)) hb); clear HB; have HO142 := n0_; have HB := n1_; clear n0_ n1_; (try clear hb); (try clear hb2); (try clear hk); (try clear hi); (try clear ho0); obtain ⟨Ao59, co59, eo59⟩ := Kd.R_slice HO142.out; subst eo59)); try go_wp2_with (first | (go_at_call 40; (with_reducible refine (huff_Limit.calls a0 _ _ l1 t139 t140 _ ?side1 ?side2 A3.out).mono ?_); (case side1 => repeat (first | exact HR1.out | (with_reducible refine Kd.C_alloc ?_ _) | (with_reducible refine Kd.C_drewN ?_ _) | (with_reducible refine Kd.C_drew ?_))); (case side2 => exact HC1.out); rintro e w58 ⟨v141, rfl, ho0, hb⟩; have n0_ := Aside0.mk (Kd.R_lower ho0 (below_size (by repeat (first | (with_reducible first | exact HB.out | apply below_alloc | apply pw_below_drewN | apply below_drew1) | exact HB.out)))); have n1_ := Aside0.mk (below_step (by repeat (first | (with_reducible first | exact HB.out | apply below_alloc | apply pw_below_drewN | apply below_drew1) | exact HB.out)) hb); clear HB; have HO142 := n0_; have HB := n1_; clear n0_ n1_; (try clear hb); (try clear hb2); (try clear hk); (try clear hi); (try clear ho0); obtain ⟨Ao59, co59, eo59⟩ := Kd.R_slice HO142.out; subst eo59)))
        go_ret
        exact ⟨by first | rfl | (simp [errW_none, errW_some] <;> rfl) | (simp [*, errW_none, errW_some] <;> rfl), by repeat (first | (with_reducible first | exact HB.out | apply below_alloc | apply pw_below_drewN | apply below_drew1) | exact HB.out)⟩
    · rw [if_neg c52] at H
      have c52b0 : (t140 == 1) = false := beq_eq_false_iff_ne.mpr c52
      have c52b1 : (t140 != 1) = true := bne_iff_ne.mpr c52
      obtain rfl := Option.some.inj H
      go_enter Try.func11, Try.ntmps11
      go_wp2_with (first | (go_at_call 40; (with_reducible refine (huff_Limit.calls a0 _ _ l1 t139 t140 _ ?side1 ?side2 A3.out).mono ?_); (case side1 => repeat (first | exact HR1.out | (with_reducible refine Kd.C_alloc ?_ _) | (with_reducible refine Kd.C_drewN ?_ _) | (with_reducible refine Kd.C_drew ?_))); (case side2 => exact HC1.out); rintro e w60 ⟨v141, rfl, ho0, hb⟩; have n0_ := Aside0.mk (Kd.R_lower ho0 (below_size (by repeat (first | (with_reducible first | exact HB.out | apply below_alloc | apply pw_below_drewN | apply below_drew1) | exact HB.out)))); have n1_ := Aside0.mk (below_step (by repeat (first | (with_reducible first | exact HB.out | apply below_alloc | apply pw_below_drewN | apply below_drew1) | exact HB.out)) hb); clear HB; have HO142 := n0_; have HB := n1_; clear n0_ n1_; (try clear hb); (try clear hb2); (try clear hk); (try clear hi); (try clear ho0)))
      repeat (go_quiet (first | (go_at_call 40; (with_reducible refine (huff_Limit.calls a0 _ _ l1 t139 t140 _ ?side1 ?side2 A3.out).mono ?_); (case side1 => repeat (first | exact HR1.out | (with_reducible refine Kd.C_alloc ?_ _) | (with_reducible refine Kd.C_drewN ?_ _) | (with_reducible refine Kd.C_drew ?_))); (case side2 => exact HC1.out); rintro e w60 ⟨v141, rfl, ho0, hb⟩; have n0_ := Aside0.mk (Kd.R_lower ho0 (below_size (by repeat (first | (with_reducible first | exact HB.out | apply below_alloc | apply pw_below_drewN | apply below_drew1) | exact HB.out)))); have n1_ := Aside0.mk (below_step (by repeat (first | (with_reducible first | exact HB.out | apply below_alloc | apply pw_below_drewN | apply below_drew1) | exact HB.out)) hb); clear HB; have HO142 := n0_; have HB := n1_; clear n0_ n1_; (try clear hb); (try clear hb2); (try clear hk); (try clear hi); (try clear ho0))); try go_wp2_with (first | (go_at_call 40; (with_reducible refine (huff_Limit.calls a0 _ _ l1 t139 t140 _ ?side1 ?side2 A3.out).mono ?_); (case side1 => repeat (first | exact HR1.out | (with_reducible refine Kd.C_alloc ?_ _) | (with_reducible refine Kd.C_drewN ?_ _) | (with_reducible refine Kd.C_drew ?_))); (case side2 => exact HC1.out); rintro e w60 ⟨v141, rfl, ho0, hb⟩; have n0_ := Aside0.mk (Kd.R_lower ho0 (below_size (by repeat (first | (with_reducible first | exact HB.out | apply below_alloc | apply pw_below_drewN | apply below_drew1) | exact HB.out)))); have n1_ := Aside0.mk (below_step (by repeat (first | (with_reducible first | exact HB.out | apply below_alloc | apply pw_below_drewN | apply below_drew1) | exact HB.out)) hb); clear HB; have HO142 := n0_; have HB := n1_; clear n0_ n1_; (try clear hb); (try clear hb2); (try clear hk); (try clear hi); (try clear ho0))))
      go_ret
      exact ⟨by first | rfl | (simp [errW_none, errW_some] <;> rfl) | (simp [*, errW_none, errW_some] <;> rfl), by repeat (first | (with_reducible first | exact HB.out | apply below_alloc | apply pw_below_drewN | apply below_drew1) | exact HB.out)⟩

/-- THE ONE PURE STATEMENT of vitrinelaw02_HuffBest: yours. -/
def vitrinelaw02_HuffBest.Pure : Prop := ∀ (a0 : Int) (l1 : List Int), (Lit.int .i64 a0).wf = true → l1.length ≤ maxLen → l1.length * 8 ≤ 140737488351232 → (∀ x ∈ l1, (Lit.int .i64 x).wf = true) → ∃ k, vitrinelaw02_HuffBest.f k a0 l1 = some true
theorem vitrinelaw02_HuffBest.walk (P : vitrinelaw02_HuffBest.Pure) (a0 : Int) (a1 : Option Addr) (len1 cap1 : Nat) (z1 : List Int) (w : World) (w0 : (Lit.int .i64 a0).wf = true) (w1 : (a1 = none ∧ len1 = 0 ∧ cap1 = 0 ∧ z1 = []) ∨ ∃ x, a1 = some x ∧ len1 ≤ cap1 ∧ cap1 ≤ maxLen ∧ z1.length = cap1 ∧ (∀ i, i < z1.length → w.cell? (x.add i) = some (.int .i64 (z1.getD i 0))) ∧ ∀ n ∈ z1, (Lit.int .i64 n).wf = true) (y1 : len1 * 8 ≤ 140737488351232) :
    Calls Try.prog 11 #[.int .i64 a0, .slice a1 len1 cap1] w fun e w' => e = .returned (.bool true) ∧ Below w.heap.size w w' := by
  obtain ⟨l1, rfl, hr1, hm1, hw1, hc1⟩ := ReadsInt.ofRowC w1
  obtain ⟨k, h⟩ := P a0 l1 w0 hm1 y1 hw1
  refine (vitrinelaw02_HuffBest.calls k a0 _ _ l1 true w (Kd.C_of_reads (d := (0 : Int)) (h1 := fun _ => rfl) hr1) hc1 h).mono ?_
  rintro e w' ⟨rfl, hd⟩
  exact ⟨rfl, hd⟩

end Go.Proofs.Ytpldapjcojjicaa.Pl
