-- printed by a program (see NOTES.md); Lean checks it
import Derived.Test.YtpldapjcojjicaaPw2
namespace Go.Proofs.Ytpldapjcojjicaa.Pl
open Go.RowKit Go.Proofs.YtpldapjcojjicaaW.PrintWords Go.Proofs.YtpldapjcojjicaaW.PrintLast Go.Proofs.YtpldapjcojjicaaW.PrintMore
attribute [local go_sem] max2_int min2_int max_two min_two max_three min_three max_four min_four   -- for this text's walks alone
set_option linter.unusedVariables false
set_option linter.unusedSimpArgs false
set_option linter.defProp false
def Ra := @Kd.R_alloc
def Rb := @Kd.R_drewN
def Rc := @Kd.R_drew
def Va := @Kd.V_alloc
def Vb := @Kd.V_drewN
def Vc := @Kd.V_drew
def Wc := @World.block_lt_of_cell?
def Od := @of_decide_eq_true
def Bb := @pw_below_drewN
def Ba := @below_alloc
def Bc := @below_drew1
theorem Q3 : (∀ {α : Type} (l : List α) (i : Nat) (a : α), l.toArray.setIfInBounds i a = (l.set i a).toArray) ∧ (∀ {α : Type} {a : α} {xs : List α} {b : α}, (a :: xs).set 0 b = b :: xs) ∧ (∀ {α : Type} {a : α} {xs : List α} {n : Nat} {b : α}, (a :: xs).set (n + 1) b = a :: xs.set n b) := ⟨fun _ _ _ => List.setIfInBounds_toArray .., List.set_cons_zero, List.set_cons_succ⟩
set_option maxHeartbeats 8000000 in
set_option maxRecDepth 100000 in
theorem vitrineref02_Limit.calls (k : Nat) (a0 : Int) (A1 : Option Addr) (c1 : Nat) (l1 : List Int) (r1 : List Int) (r2 : Int) (w : World) (hr1 : Kd.C (Kd.int .i64) w A1 l1.length l1) (hc1 : l1.length ≤ c1) (h : vitrineref02_Limit.f k a0 l1 = some (r1, r2)) :
    Calls Try.prog 41 #[.int .i64 a0, .slice A1 l1.length c1] w fun e w' => ∃ v0_ : Value, e = .returned (.tuple #[v0_, .int .i64 r2]) ∧ Kd.R (Kd.int .i64) 3 w' w.heap.size (fun _ => True) v0_ r1 ∧ Below w.heap.size w w' := by
 have hu97 := Try.underlying97
 have HR1 := Aside0.mk hr1
 have HC1 := Aside0.mk hc1
 clear hr1 hc1
 have HB := Aside0.mk (Below.refl w.heap.size w)
 have H : (if (l1.length : Int) > 288 then (vitrineref02_Limit.j0 k a0 l1 true) else (if a0 < 1 then (vitrineref02_Limit.j0 k a0 l1 true) else (vitrineref02_Limit.j0 k a0 l1 (decide (a0 > 15))))) = some (r1, r2) := h
 clear h
 have HC3 := Aside0.mk H
 clear H
 go_enter Try.func41, Try.ntmps41
 go_upto_region 1 with (fail)
 go_cut [32] (fun v32 wc => ∃ (kq : Nat) (x32_2 : Bool), v32 = .bool x32_2 ∧ Aside0 (vitrineref02_Limit.j0 kq a0 l1 x32_2 = some (r1, r2)) ∧ Aside0 (kq ≤ k) ∧ Aside0 (Below w.heap.size w wc))
 case first => (
 have H := HC3.out
 clear HC3
 by_cases c4 : (l1.length : Int) > 288
 {
 rw [if_pos c4] at H
 have c4b0 : decide (288 < (l1.length : Int)) = true := decide_eq_true c4
 have c4b1 : decide (288 < l1.length) = true := decide_eq_true (by omega)
 clear c4
 (first | rw [c4b0] | (simp only [i64_w, i32_w]; rw [c4b0]) | skip)
 have H' := Aside0.mk H
 clear H
 go_wp2
 go_meet
 case rel => exact ⟨_, (true), (by first | rfl | (simp; done) | (simp [*]; done)), H', ⟨by first | omega | exact Nat.le_refl _⟩, ⟨by repeat (first | (with_reducible first | exact HB.out | apply Ba | apply Bb | apply Bc) | exact HB.out)⟩⟩}
 {
 rw [if_neg c4] at H
 have c4b0 : decide (288 < (l1.length : Int)) = false := decide_eq_false c4
 have c4b1 : decide (288 < l1.length) = false := decide_eq_false (by omega)
 clear c4
 (first | rw [c4b0] | (simp only [i64_w, i32_w]; rw [c4b0]) | skip)
 by_cases c5 : a0 < 1
 {
 rw [if_pos c5] at H
 have c5b0 : decide (a0 < 1) = true := decide_eq_true c5
 clear c5
 have H' := Aside0.mk H
 clear H
 go_wp2
 go_meet
 case rel => exact ⟨_, (true), (by first | rfl | (simp; done) | (simp [*]; done)), H', ⟨by first | omega | exact Nat.le_refl _⟩, ⟨by repeat (first | (with_reducible first | exact HB.out | apply Ba | apply Bb | apply Bc) | exact HB.out)⟩⟩}
 {
 rw [if_neg c5] at H
 have c5b0 : decide (a0 < 1) = false := decide_eq_false c5
 clear c5
 have H' := Aside0.mk H
 clear H
 go_wp2
 go_meet
 case rel => exact ⟨_, (decide (a0 > 15)), (by first | rfl | (simp; done) | (simp [*]; done)), H', ⟨by first | omega | exact Nat.le_refl _⟩, ⟨by repeat (first | (with_reducible first | exact HB.out | apply Ba | apply Bb | apply Bc) | exact HB.out)⟩⟩}})
 case rest => (
 clear HC3
 try clear c1
 try clear p2
 try clear c4
 try clear c4b0
 try clear c4b1
 try clear c5
 try clear c5b0
 obtain ⟨kq, x32_2, rfl, HA, HJ2, HB⟩ := hcut
 cases kq with
 | zero => exact absurd HA.out (by simp [vitrineref02_Limit.j0])
 | succ kj2 => (
 have H := HA.out
 clear HA
 simp only [vitrineref02_Limit.j0] at H
 by_cases c6 : x32_2 = true
 {
 subst c6
 have H1 : (some (([] : List Int), 1)) = some (r1, r2) := by rw [if_pos rfl] at H; exact H
 clear H
 have H := H1
 clear H1
 simp only [Option.some.injEq, Prod.mk.injEq] at H
 obtain ⟨rfl, rfl⟩ := H
 go_wp2
 go_ret2
 exact ⟨_, by first | rfl | (simp [errW_none, errW_some] <;> rfl) | (simp [*, errW_none, errW_some] <;> rfl), by first | exact Kd.R_nil _ _ _ _ _ | exact Kd.N_nil _ _ _ _ _ | exact Kd.V_nil _ _ _ _ _ | exact Kd.Q_nil _ _ _ _ _ | exact Kd.S_nil _ _ _ _ _, by repeat (first | (with_reducible first | exact HB.out | apply Ba | apply Bb | apply Bc) | exact HB.out)⟩}
 {
 replace c6 := Bool.eq_false_iff.mpr c6
 subst c6
 have H1 : (vitrineref02_Limit.l0 kj2 a0 l1 0 0) = some (r1, r2) := by rw [if_neg (show ¬ (false = true) by decide)] at H; exact H
 clear H
 have H := H1
 clear H1
 have H' := Aside0.mk H
 clear H
 go_wp2
 go_loopg [6, 7] kj2 (fun kq v6 v7 w' => ∃ (x6_2 : Int) (x7_2 : Int), v6 = .int .i64 x6_2 ∧ v7 = .int .i64 x7_2 ∧ Aside0 (vitrineref02_Limit.l0 kq a0 l1 x6_2 x7_2 = some (r1, r2)) ∧ Aside0 (kq ≤ kj2) ∧ Aside0 (Below w.heap.size w w'))
 case atStart => exact ⟨(0), (0), (by first | rfl | (simp; done) | (simp [*]; done)), (by first | rfl | (simp; done) | (simp [*]; done)), H', ⟨Nat.le_refl _⟩, ⟨by repeat (first | (with_reducible first | exact HB.out | apply Ba | apply Bb | apply Bc) | exact HB.out)⟩⟩
 case round => (as_aux_lemma => (
 clear H'
 try clear c1
 try clear p2
 try clear c4
 try clear c4b0
 try clear c4b1
 try clear c5
 try clear c5b0
 try clear c6
 try clear p2
 obtain ⟨x6_2, x7_2, rfl, rfl, HA, HK2, HB⟩ := hrel
 cases gk with
 | zero => exact absurd HA.out (by simp [vitrineref02_Limit.l0])
 | succ k2 => (
 have H := HA.out
 clear HA
 simp only [vitrineref02_Limit.l0] at H
 by_cases c7 : x7_2 < (l1.length : Int)
 {
 rw [if_pos c7] at H
 have c7b0 : decide (x7_2 < (l1.length : Int)) = true := decide_eq_true c7
 clear c7
 have HC8 := Aside0.mk H
 clear H
 go_upto_region 7 with (fail)
 go_cut [50] (fun v50 wc => ∃ (kq : Nat) (x50_7 : Bool), v50 = .bool x50_7 ∧ Aside0 (vitrineref02_Limit.j2 kq a0 l1 x6_2 x7_2 x50_7 = some (r1, r2)) ∧ Aside0 (kq ≤ k2) ∧ Aside0 (Below w.heap.size w wc))
 case first => (
 have H := HC8.out
 clear HC8
 by_cases c9 : 0 ≤ x7_2
 {
 rw [if_pos c9] at H
 have c9b0 : decide (0 ≤ x7_2) = true := decide_eq_true c9
 clear c9
 (first | rw [c9b0] | (simp only [i64_w, i32_w]; rw [c9b0]) | skip)
 by_cases c10 : (rd l1 x7_2) < 0
 {
 rw [if_pos c10] at H
 have c10b0 : decide ((rd l1 x7_2) < 0) = true := decide_eq_true c10
 clear c10
 have H' := Aside0.mk H
 clear H
 have p121 : 0 ≤ (x7_2 : Int) := Od (by first | (with_reducible assumption) | assumption)
 have q121 : x7_2 < (l1.length : Int) := Od (by first | (with_reducible assumption) | assumption)
 obtain ⟨ad121, e121, hx121_0⟩ := Kd.at_int HR1.out x7_2 p121 q121
 cases e121
 replace hx121_0 := (HB.out.cell (Wc w _ hx121_0)).trans hx121_0
 replace p121 := eq_true p121
 replace q121 := eq_true q121
 go_wp2
 go_meet
 case rel => exact ⟨_, (true), (by first | rfl | (simp; done) | (simp [*]; done)), H', ⟨by have := HJ2.out; have := HK2.out; first | omega | exact Nat.le_refl _⟩, ⟨by repeat (first | (with_reducible first | exact HB.out | apply Ba | apply Bb | apply Bc) | exact HB.out)⟩⟩}
 {
 rw [if_neg c10] at H
 have c10b0 : decide ((rd l1 x7_2) < 0) = false := decide_eq_false c10
 clear c10
 have H' := Aside0.mk H
 clear H
 have p121 : 0 ≤ (x7_2 : Int) := Od (by first | (with_reducible assumption) | assumption)
 have q121 : x7_2 < (l1.length : Int) := Od (by first | (with_reducible assumption) | assumption)
 obtain ⟨ad121, e121, hx121_0⟩ := Kd.at_int HR1.out x7_2 p121 q121
 cases e121
 replace hx121_0 := (HB.out.cell (Wc w _ hx121_0)).trans hx121_0
 replace p121 := eq_true p121
 replace q121 := eq_true q121
 have p122 : 0 ≤ (x7_2 : Int) := Od (by first | (with_reducible assumption) | assumption)
 have q122 : x7_2 < (l1.length : Int) := Od (by first | (with_reducible assumption) | assumption)
 obtain ⟨ad122, e122, hx122_0⟩ := Kd.at_int HR1.out x7_2 p122 q122
 obtain rfl : ad121 = ad122 := (by injection e122)
 replace hx122_0 := (HB.out.cell (Wc w _ hx122_0)).trans hx122_0
 replace p122 := eq_true p122
 replace q122 := eq_true q122
 go_wp2
 go_meet
 case rel => exact ⟨_, (decide ((rd l1 x7_2) > 1000000000)), (by first | rfl | (simp; done) | (simp [*]; done)), H', ⟨by have := HJ2.out; have := HK2.out; first | omega | exact Nat.le_refl _⟩, ⟨by repeat (first | (with_reducible first | exact HB.out | apply Ba | apply Bb | apply Bc) | exact HB.out)⟩⟩}}
 {
 rw [if_neg c9] at H
 exact absurd H (by simp)})
 case rest => (
 clear HC8
 try clear c1
 try clear p1
 try clear q1
 try clear hx1
 try clear p2
 try clear c4
 try clear c4b0
 try clear c4b1
 try clear c5
 try clear c5b0
 try clear c6
 try clear c7
 try clear c7b0
 try clear c9
 try clear c9b0
 try clear c10
 try clear c10b0
 try clear hx121_0
 try clear hx122_0
 try clear p121
 try clear p122
 try clear p2
 try clear q121
 try clear q122
 obtain ⟨kq, x50_7, rfl, HA, HJ7, HB⟩ := hcut
 cases kq with
 | zero => exact absurd HA.out (by simp [vitrineref02_Limit.j2])
 | succ kj7 => (
 have H := HA.out
 clear HA
 simp only [vitrineref02_Limit.j2] at H
 by_cases c11 : x50_7 = true
 {
 subst c11
 have H1 : (some (([] : List Int), 1)) = some (r1, r2) := by rw [if_pos rfl] at H; exact H
 clear H
 have H := H1
 clear H1
 simp only [Option.some.injEq, Prod.mk.injEq] at H
 obtain ⟨rfl, rfl⟩ := H
 go_wp2
 go_ret2
 exact ⟨_, by first | rfl | (simp [errW_none, errW_some] <;> rfl) | (simp [*, errW_none, errW_some] <;> rfl), by first | exact Kd.R_nil _ _ _ _ _ | exact Kd.N_nil _ _ _ _ _ | exact Kd.V_nil _ _ _ _ _ | exact Kd.Q_nil _ _ _ _ _ | exact Kd.S_nil _ _ _ _ _, by repeat (first | (with_reducible first | exact HB.out | apply Ba | apply Bb | apply Bc) | exact HB.out)⟩}
 {
 replace c11 := Bool.eq_false_iff.mpr c11
 subst c11
 have H1 : (if 0 ≤ x7_2 then (if x7_2 < (l1.length : Int) then (if (rd l1 x7_2) > 0 then (vitrineref02_Limit.l0 kj7 a0 l1 (wrap64 (x6_2 + 1)) (wrap64 (x7_2 + 1))) else (vitrineref02_Limit.l0 kj7 a0 l1 x6_2 (wrap64 (x7_2 + 1)))) else (none)) else (none)) = some (r1, r2) := by rw [if_neg (show ¬ (false = true) by decide)] at H; exact H
 clear H
 have H := H1
 clear H1
 by_cases c12 : 0 ≤ x7_2
 {
 rw [if_pos c12] at H
 have c12b0 : decide (0 ≤ x7_2) = true := decide_eq_true c12
 clear c12
 by_cases c13 : x7_2 < (l1.length : Int)
 {
 rw [if_pos c13] at H
 have c13b0 : decide (x7_2 < (l1.length : Int)) = true := decide_eq_true c13
 clear c13
 by_cases c14 : (rd l1 x7_2) > 0
 {
 rw [if_pos c14] at H
 have c14b0 : decide (0 < (rd l1 x7_2)) = true := decide_eq_true c14
 clear c14
 have H' := Aside0.mk H
 clear H
 have p123 : 0 ≤ (x7_2 : Int) := Od (by first | (with_reducible assumption) | assumption)
 have q123 : x7_2 < (l1.length : Int) := Od (by first | (with_reducible assumption) | assumption)
 obtain ⟨ad123, e123, hx123_0⟩ := Kd.at_int HR1.out x7_2 p123 q123
 cases e123
 replace hx123_0 := (HB.out.cell (Wc w _ hx123_0)).trans hx123_0
 replace p123 := eq_true p123
 replace q123 := eq_true q123
 go_wp2
 go_roundg kj7
 case measure => have := HJ2.out; have := HK2.out; have := HJ7.out; omega
 case rel => exact ⟨(wrap64 (x6_2 + 1)), (wrap64 (x7_2 + 1)), (by first | rfl | (simp; done) | (simp [*]; done)), (by first | rfl | (simp; done) | (simp [*]; done)), H', ⟨by have := HJ2.out; have := HK2.out; have := HJ7.out; omega⟩, ⟨by repeat (first | (with_reducible first | exact HB.out | apply Ba | apply Bb | apply Bc) | exact HB.out)⟩⟩}
 {
 rw [if_neg c14] at H
 have c14b0 : decide (0 < (rd l1 x7_2)) = false := decide_eq_false c14
 clear c14
 have H' := Aside0.mk H
 clear H
 have p123 : 0 ≤ (x7_2 : Int) := Od (by first | (with_reducible assumption) | assumption)
 have q123 : x7_2 < (l1.length : Int) := Od (by first | (with_reducible assumption) | assumption)
 obtain ⟨ad123, e123, hx123_0⟩ := Kd.at_int HR1.out x7_2 p123 q123
 cases e123
 replace hx123_0 := (HB.out.cell (Wc w _ hx123_0)).trans hx123_0
 replace p123 := eq_true p123
 replace q123 := eq_true q123
 go_wp2
 go_roundg kj7
 case measure => have := HJ2.out; have := HK2.out; have := HJ7.out; omega
 case rel => exact ⟨(x6_2), (wrap64 (x7_2 + 1)), (by first | rfl | (simp; done) | (simp [*]; done)), (by first | rfl | (simp; done) | (simp [*]; done)), H', ⟨by have := HJ2.out; have := HK2.out; have := HJ7.out; omega⟩, ⟨by repeat (first | (with_reducible first | exact HB.out | apply Ba | apply Bb | apply Bc) | exact HB.out)⟩⟩}}
 {
 rw [if_neg c13] at H
 exact absurd H (by simp)}}
 {
 rw [if_neg c12] at H
 exact absurd H (by simp)}}))}
 {
 rw [if_neg c7] at H
 have c7b0 : decide (x7_2 < (l1.length : Int)) = false := decide_eq_false c7
 clear c7
 by_cases c15 : 0 ≤ a0
 {
 rw [if_pos c15] at H
 have c15b0 := eq_true c15
 have c15b1 : decide (0 ≤ a0) = true := decide_eq_true c15
 clear c15
 obtain ⟨ji16, hji16⟩ : ∃ j_ : Int, (shl .i64 1 a0) = j_ := ⟨_, rfl⟩
 replace H : (if x6_2 > (ji16) then (some (([] : List Int), 1)) else (if 0 ≤ (l1.length : Int) then (if ((l1.length : Int) : Int).toNat ≤ 35184372088832 then (vitrineref02_Limit.l1 k2 a0 l1 x6_2 (List.replicate ((l1.length : Int) : Int).toNat 0) ([] : List (S97)) 0) else (none)) else (none))) = some (r1, r2) := by first | (rw [hji16] at H; exact H) | (simp only [hji16] at H ⊢; exact H)
 have hji16_ : (IntKind.i64.wrap (1 * 2 ^ min a0.toNat 64)) = ji16 := hji16
 have hji16z : a0 ≤ 64 → (IntKind.i64.wrap (1 * 2 ^ a0.toNat)) = ji16 := shl_small hji16
 have hji16u : (IntKind.i64.wrap (2 ^ min a0.toNat 64)) = ji16 := by have h_ := hji16_; rw [Int.one_mul] at h_; exact h_
 have hji16v : a0 ≤ 64 → (IntKind.i64.wrap (2 ^ a0.toNat)) = ji16 := fun hle_ => by have h_ := hji16z hle_; rw [Int.one_mul] at h_; exact h_
 have hji16y : (wrap64 (1 * 2 ^ min a0.toNat 64)) = ji16 := (i64_w _).symm.trans hji16_
 have hji16x : a0 ≤ 64 → (wrap64 (1 * 2 ^ a0.toNat)) = ji16 := fun h_ => (i64_w _).symm.trans (hji16z h_)
 by_cases c17 : x6_2 > (ji16)
 {
 rw [if_pos c17] at H
 have c17b0 : decide ((ji16) < x6_2) = true := decide_eq_true c17
 clear c17
 simp only [Option.some.injEq, Prod.mk.injEq] at H
 obtain ⟨rfl, rfl⟩ := H
 go_wp2
 go_ret2
 exact ⟨_, by first | rfl | (simp [errW_none, errW_some] <;> rfl) | (simp only [← hji16]; first | rfl | (simp [errW_none, errW_some] <;> rfl)) | (simp [*, errW_none, errW_some] <;> rfl), by first | exact Kd.R_nil _ _ _ _ _ | exact Kd.N_nil _ _ _ _ _ | exact Kd.V_nil _ _ _ _ _ | exact Kd.Q_nil _ _ _ _ _ | exact Kd.S_nil _ _ _ _ _, by repeat (first | (with_reducible first | exact HB.out | apply Ba | apply Bb | apply Bc) | exact HB.out)⟩}
 {
 rw [if_neg c17] at H
 have c17b0 : decide ((ji16) < x6_2) = false := decide_eq_false c17
 clear c17
 by_cases c18 : 0 ≤ (l1.length : Int)
 {
 rw [if_pos c18] at H
 have c18b0 := eq_true c18
 have c18b1 : decide (0 ≤ (l1.length : Int)) = true := decide_eq_true c18
 clear c18
 by_cases c19 : ((l1.length : Int) : Int).toNat ≤ 35184372088832
 {
 rw [if_pos c19] at H
 have c19b0 := eq_true c19
 have c19b1 : decide (((l1.length : Int) : Int).toNat ≤ 35184372088832) = true := decide_eq_true c19
 clear c19
 obtain ⟨y124, hy124⟩ : ∃ y_ : List Int, y_ = (List.replicate ((l1.length : Int) : Int).toNat 0) := ⟨_, rfl⟩
 replace H : (vitrineref02_Limit.l1 k2 a0 l1 x6_2 y124 ([] : List (S97)) 0) = some (r1, r2) := by first | (rw [hy124]; with_reducible exact H) | (have H2_ := (Option.bind_some _ _).symm.trans H; rw [hy124]; with_reducible exact H2_) | (have H2_ := (Option.bind_some _ _).symm.trans H; with_reducible exact H2_) | with_reducible exact H | (rw [hy124]; exact H) | exact H
 have Ny124 := Aside0.mk hy124
 clear hy124
 have H' := Aside0.mk H
 clear H
 go_wp2_with (first | ((with_reducible refine gate_dst (N := 64) rfl ?_); refine Kd.R_make (Kd.int .i64) _ 3 rfl (N := 64) rfl 51 _ _ rfl (l1.length : Int) rfl rfl Try.underlying51 (.int .i64 0) 8 info3 rfl (by decide) (by omega) 0 (ok := fun _ => True) (okp := fun _ => True) rfl (fun _ hk => hk) trivial (Od (by first | (with_reducible assumption) | assumption)) (Nat.le_trans (Nat.mul_le_mul_right _ (Od (by first | (with_reducible assumption) | assumption) : (l1.length : Int).toNat ≤ 35184372088832)) (by omega)) (Below.refl _ _) (Nat.le_refl _) ?_; intro v125 w20 ho21 hb hg_ hnew_; clear hg_ hnew_; (first | rw [← Ny124.out] at ho21 | (simp only [Int.reduceToNat] at ho21; rw [← Ny124.out] at ho21)); have n0_ := Aside0.mk (Kd.R_lower ho21 (below_size (by repeat (first | (with_reducible first | exact HB.out | apply Ba | apply Bb | apply Bc) | exact HB.out)))); have n1_ := Aside0.mk (below_step (by repeat (first | (with_reducible first | exact HB.out | apply Ba | apply Bb | apply Bc) | exact HB.out)) hb); clear HB; have HO126 := n0_; have HB := n1_; clear n0_ n1_; clear hb ho21))
 go_loopg [9, 10] k2 (fun kq v9 v10 w' => ∃ (x8_3 : List Int) (x9_3 : List (S97)) (x10_3 : Int), v10 = .int .i64 x10_3 ∧ Aside0 (vitrineref02_Limit.l1 kq a0 l1 x6_2 x8_3 x9_3 x10_3 = some (r1, r2)) ∧ Aside0 (kq ≤ k2) ∧ Aside0 (Kd.R (Kd.int .i64) 3 w' w.heap.size (fun _ => True) v125 x8_3) ∧ Aside0 (Kd.N k97 97 w' w.heap.size (fun k_ => some k_ ≠ (v125 : Value).ownBlock) v9 x9_3) ∧ Aside0 (Below w.heap.size w w'))
 case atStart => exact ⟨(y124), (([] : List (S97))), (0), (by first | rfl | (simp; done) | (simp [*]; done)), H', ⟨Nat.le_refl _⟩, ⟨by (with_reducible repeat (first | apply Ra | apply Rb | apply Rc)); exact HO126.out⟩, ⟨by first | exact Kd.S_nil _ _ _ _ _ | exact Kd.N_nil _ _ _ _ _ | exact Kd.V_nil _ _ _ _ _ | exact Kd.Q_nil _ _ _ _ _ | exact Kd.R_nil _ _ _ _ _⟩, ⟨by repeat (first | (with_reducible first | exact HB.out | apply Ba | apply Bb | apply Bc) | exact HB.out)⟩⟩
 case round => (as_aux_lemma => (
 clear H'
 try clear c1
 try clear p1
 try clear q1
 try clear hx1
 try clear p2
 try clear c4
 try clear c4b0
 try clear c4b1
 try clear c5
 try clear c5b0
 try clear c6
 try clear p6
 try clear c7
 try clear c7b0
 try clear c9
 try clear c9b0
 try clear c10
 try clear c10b0
 try clear c11
 try clear c12
 try clear c12b0
 try clear p12
 try clear q12
 try clear hx12
 try clear c13
 try clear c13b0
 try clear c14
 try clear c14b0
 try clear c15
 try clear c15b0
 try clear c15b1
 try clear c17
 try clear c17b0
 try clear c18
 try clear c18b0
 try clear c18b1
 try clear c19
 try clear c19b0
 try clear c19b1
 try clear hx121_0
 try clear hx122_0
 try clear hx123_0
 try clear p1
 try clear p121
 try clear p122
 try clear p123
 try clear p2
 try clear q1
 try clear q121
 try clear q122
 try clear q123
 obtain ⟨x8_3, x9_3, x10_3, rfl, HA, HK3, HO_8, HO_9, HB⟩ := hrel
 cases gk with
 | zero => exact absurd HA.out (by simp [vitrineref02_Limit.l1])
 | succ k3 => (
 have H := HA.out
 clear HA
 simp only [vitrineref02_Limit.l1] at H
 by_cases c22 : x10_3 < (l1.length : Int)
 {
 rw [if_pos c22] at H
 have c22b0 : decide (x10_3 < (l1.length : Int)) = true := decide_eq_true c22
 clear c22
 by_cases c23 : 0 ≤ x10_3
 {
 rw [if_pos c23] at H
 have c23b0 : decide (0 ≤ x10_3) = true := decide_eq_true c23
 clear c23
 by_cases c24 : (rd l1 x10_3) = 0
 {
 rw [if_pos c24] at H
 have c24b0 : ((rd l1 x10_3) == 0) = true := beq_iff_eq.mpr c24
 have c24b1 : ((rd l1 x10_3) != 0) = false := bne_eq_false_iff_eq.mpr c24
 clear c24
 have H' := Aside0.mk H
 clear H
 have p127 : 0 ≤ (x10_3 : Int) := Od (by first | (with_reducible assumption) | assumption)
 have q127 : x10_3 < (l1.length : Int) := Od (by first | (with_reducible assumption) | assumption)
 obtain ⟨ad127, e127, hx127_0⟩ := Kd.at_int HR1.out x10_3 p127 q127
 cases e127
 replace hx127_0 := (HB.out.cell (Wc w _ hx127_0)).trans hx127_0
 replace p127 := eq_true p127
 replace q127 := eq_true q127
 go_wp2
 go_roundg k3
 case measure => have := HJ2.out; have := HK2.out; have := HK3.out; omega
 case rel => exact ⟨(x8_3), (x9_3), (wrap64 (x10_3 + 1)), (by first | rfl | (simp; done) | (simp [*]; done)), H', ⟨by have := HJ2.out; have := HK2.out; have := HK3.out; omega⟩, ⟨by (with_reducible repeat (first | apply Ra | apply Rb | apply Rc)); exact HO_8.out⟩, ⟨by (with_reducible repeat (first | apply Kd.N_alloc | apply Kd.N_drewN | apply Kd.N_drew)); exact HO_9.out⟩, ⟨by repeat (first | (with_reducible first | exact HB.out | apply Ba | apply Bb | apply Bc) | exact HB.out)⟩⟩}
 {
 rw [if_neg c24] at H
 have c24b0 : ((rd l1 x10_3) == 0) = false := beq_eq_false_iff_ne.mpr c24
 have c24b1 : ((rd l1 x10_3) != 0) = true := bne_iff_ne.mpr c24
 by_cases c25 : 0 ≤ (l1.length : Int)
 {
 rw [if_pos c25] at H
 have c25b0 := eq_true c25
 have c25b1 : decide (0 ≤ (l1.length : Int)) = true := decide_eq_true c25
 clear c25
 by_cases c26 : ((l1.length : Int) : Int).toNat ≤ 35184372088832
 {
 rw [if_pos c26] at H
 have c26b0 := eq_true c26
 have c26b1 : decide (((l1.length : Int) : Int).toNat ≤ 35184372088832) = true := decide_eq_true c26
 clear c26
 obtain ⟨y129, hy129⟩ : ∃ y_ : List Int, y_ = (List.replicate ((l1.length : Int) : Int).toNat 0) := ⟨_, rfl⟩
 replace H : (if x10_3 < (y129.length : Int) then (vitrineref02_Limit.l2 k3 a0 l1 x6_2 x8_3 x9_3 x10_3 0 (rd l1 x10_3) true (y129.set (x10_3 : Int).toNat 1)) else (none)) = some (r1, r2) := by first | (rw [hy129]; with_reducible exact H) | (have H2_ := (Option.bind_some _ _).symm.trans H; rw [hy129]; with_reducible exact H2_) | (have H2_ := (Option.bind_some _ _).symm.trans H; with_reducible exact H2_) | with_reducible exact H | (rw [hy129]; exact H) | exact H
 have Ny129 := Aside0.mk hy129
 clear hy129
 by_cases c27 : x10_3 < (y129.length : Int)
 {
 rw [if_pos c27] at H
 have c27b0 : decide (x10_3 < (y129.length : Int)) = true := decide_eq_true c27
 clear c27
 obtain ⟨y133, hy133⟩ : ∃ y_ : List Int, y_ = (y129.set (x10_3 : Int).toNat 1) := ⟨_, rfl⟩
 replace H : (vitrineref02_Limit.l2 k3 a0 l1 x6_2 x8_3 x9_3 x10_3 0 (rd l1 x10_3) true y133) = some (r1, r2) := by first | (rw [hy133]; with_reducible exact H) | (have H2_ := (Option.bind_some _ _).symm.trans H; rw [hy133]; with_reducible exact H2_) | (have H2_ := (Option.bind_some _ _).symm.trans H; with_reducible exact H2_) | with_reducible exact H | (rw [hy133]; exact H) | exact H
 have Ny133 := Aside0.mk hy133
 clear hy133
 have H' := Aside0.mk H
 clear H
 have p127 : 0 ≤ (x10_3 : Int) := Od (by first | (with_reducible assumption) | assumption)
 have q127 : x10_3 < (l1.length : Int) := Od (by first | (with_reducible assumption) | assumption)
 obtain ⟨ad127, e127, hx127_0⟩ := Kd.at_int HR1.out x10_3 p127 q127
 cases e127
 replace hx127_0 := (HB.out.cell (Wc w _ hx127_0)).trans hx127_0
 replace p127 := eq_true p127
 replace q127 := eq_true q127
 try go_wp2
 have n0_ := Aside0.mk (Rc HO_8.out)
 have n1_ := Aside0.mk (Kd.N_drew HO_9.out)
 have n2_ := Aside0.mk (Bc HB.out)
 clear HO_8
 clear HO_9
 clear HB
 have HO_8 := n0_
 have HO_9 := n1_
 have HB := n2_
 clear n0_ n1_ n2_
 have p128 : 0 ≤ (x10_3 : Int) := Od (by first | (with_reducible assumption) | assumption)
 have q128 : x10_3 < (l1.length : Int) := Od (by first | (with_reducible assumption) | assumption)
 obtain ⟨ad128, e128, hx128_0⟩ := Kd.at_int HR1.out x10_3 p128 q128
 have hw128_0 := hx128_0
 obtain rfl : ad127 = ad128 := (by injection e128)
 replace hx128_0 := (HB.out.cell (Wc w _ hx128_0)).trans hx128_0
 replace p128 := eq_true p128
 replace q128 := eq_true q128
 refine start_ (n := 10) (S := fun w' => w'.cell? (ad127.add (x10_3).toNat) = some (.int .i64 (rd l1 x10_3))) (ds := []) #[false, false, false, false, false, false, false, false, false, false] (by kernel_rfl) rfl rfl (((HB.out.cell (Wc w _ hw128_0)).trans hw128_0)) (fun hHeld => ?_); refine with_tabW vitrineref02_Limit.tab19 vitrineref02_Limit.bits19 (fun HT_ HW_ => ?_)
 generalize wr.drew = w29 at HO_8 HO_9 HB hx128_0 hHeld ⊢
 refine pure_ (i := 0) (N := some 76) (v := ?_) (a' := ?_) #[true, false, false, false, false, false, false, false, false, false] rfl rfl (any_of HT_.out (by kernel_rfl)) (fun _ _ _ h => h) (Or.inl ⟨by rfl, ?_⟩) ?_ ?_
 rotate_left
 {
 intro w'
 go_simp
 with_reducible rfl}
 rotate_left
 {
 simp only [Act.put, Q3, i64_w, i32_w]
 rfl}
 refine pure_ (i := 1) (N := some 77) (v := ?_) (a' := ?_) #[true, true, false, false, false, false, false, false, false, false] rfl rfl (any_of HT_.out (by kernel_rfl)) (fun _ _ _ h => h) (Or.inl ⟨by rfl, ?_⟩) ?_ ?_
 rotate_left
 {
 intro w'
 go_simp
 with_reducible rfl}
 rotate_left
 {
 simp only [Act.put, Q3, i64_w, i32_w]
 rfl}
 refine pure_ (i := 2) (N := some 78) (v := ?_) (a' := ?_) #[true, true, true, false, false, false, false, false, false, false] rfl rfl (any_of HT_.out (by kernel_rfl)) (fun _ _ _ h => h) (Or.inl ⟨by rfl, ?_⟩) ?_ ?_
 rotate_left
 {
 intro w'
 go_simp
 with_reducible rfl}
 rotate_left
 {
 simp only [Act.put, Q3, i64_w, i32_w]
 rfl}
 refine pure_ (i := 4) (N := some 80) (v := ?_) (a' := ?_) #[true, true, true, false, true, false, false, false, false, false] rfl rfl (any_of HT_.out (by kernel_rfl)) (fun _ _ _ h => h) (Or.inl ⟨by rfl, ?_⟩) ?_ ?_
 rotate_left
 {
 intro w'
 go_simp
 with_reducible rfl}
 rotate_left
 {
 simp only [Act.put, Q3, i64_w, i32_w]
 rfl}
 refine pure_ (i := 5) (N := some 81) (v := ?_) (a' := ?_) #[true, true, true, false, true, true, false, false, false, false] rfl rfl (any_of HT_.out (by kernel_rfl)) (fun _ _ _ h => h) (Or.inl ⟨by rfl, ?_⟩) ?_ ?_
 rotate_left
 {
 intro w'
 go_simp
 with_reducible rfl}
 rotate_left
 {
 simp only [Act.put, Q3, i64_w, i32_w]
 rfl}
 refine take_ (i := 3) (N := some 79) (v := ?_) (a' := ?_) #[true, true, true, true, true, true, false, false, false, false] rfl rfl (take_ofW HT_.out HW_.out (by kernel_rfl)) (fun _ _ _ h => h) (Or.inl ⟨by rfl, ?_⟩) hHeld ?_ ?_
 rotate_left
 {
 intro w' s0
 go_simp
 with_reducible rfl}
 rotate_left
 {
 simp only [Act.put, Q3, i64_w, i32_w]
 rfl}
 refine join_ (σ := Value × Nat) 1 #[true, true, true, true, true, true, true, true, true, false] (fun s_ => [(82, s_.1), (11, .pointer (some ⟨s_.2, 0, none⟩)), (83, .agg #[.int .i64 (rd l1 x10_3), .bool true, s_.1])]) (fun s_ w' => (w'.cell? (ad127.add (x10_3).toNat) = some (.int .i64 (rd l1 x10_3))) ∧ (Kd.R (Kd.int .i64) 3 w' w.heap.size (fun k_ => some k_ ≠ (v125 : Value).ownBlock) s_.1 y129) ∧ (Kd.R (Kd.int .i64) 3 w' w.heap.size (fun k_ => some k_ ≠ (s_.1 : Value).ownBlock) v125 x8_3) ∧ (Kd.N k97 97 w' w.heap.size (fun k_ => some k_ ≠ (s_.1 : Value).ownBlock ∧ some k_ ≠ (v125 : Value).ownBlock ∧ k_ ≠ s_.2) u9 x9_3) ∧ (w'.heap[s_.2]? = some (.cells #[.int .i64 0, .bool false, .slice none 0 0] 97 (0, 0))) ∧ (w.heap.size ≤ s_.2) ∧ (w.heap.size ≤ s_.2) ∧ (Below w.heap.size w w')) ?_ ?_
 rotate_left
 {
 intro hCont
 refine two_ (i := 6) (j := 8) (Ni := some 82) (Nj := some 11) #[true, true, true, true, true, true, true, false, false, false] #[true, true, true, true, true, true, false, false, true, false] rfl rfl rfl rfl (two_of HT_.out (by kernel_rfl)) (by decide) (by decide) (fun K hK => ?_) (fun K hK => ?_)
 {
 skip
 refine Kd.R_make_step (Kd.int .i64) _ 3 (by rfl) (N := 82) rfl 51 _ _ rfl (l1.length : Int) rfl rfl Try.underlying51 (.int .i64 0) 8 info3 rfl (by decide) (by omega) 0 (ok := fun _ => True) (okp := fun _ => True) rfl (fun _ hk => hk) trivial (Od (by first | (with_reducible assumption) | assumption)) (Nat.le_trans (Nat.mul_le_mul_right _ (Od (by first | (with_reducible assumption) | assumption) : (l1.length : Int).toNat ≤ 35184372088832)) (by omega)) (Below.refl _ _) (Nat.le_refl _) ?_
 intro v130 w30 ho31 hb hg_ hnew_
 clear hg_ hnew_
 (first | rw [← Ny129.out] at ho31 | (simp only [Int.reduceToNat] at ho31; rw [← Ny129.out] at ho31))
 have n0_ := Aside0.mk (Kd.R_elder' (by (with_reducible repeat (first | apply Ra | apply Rb | apply Rc)); exact HO_8.out) (Kd.R_base ho31) hb)
 have n1_ := Aside0.mk (Kd.N_elder' (by (with_reducible repeat (first | apply Kd.N_alloc | apply Kd.N_drewN | apply Kd.N_drew)); exact HO_9.out) (Kd.R_base ho31) hb)
 have n2_ := Aside0.mk (Kd.R_lower (Kd.R_new' ho31 (Kd.R_lt (by (with_reducible repeat (first | apply Ra | apply Rb | apply Rc)); exact HO_8.out))) (below_size (by repeat (first | (with_reducible first | exact HB.out | apply Ba | apply Bb | apply Bc) | exact HB.out))))
 have n3_ := Aside0.mk (below_step (by repeat (first | (with_reducible first | exact HB.out | apply Ba | apply Bb | apply Bc) | exact HB.out)) hb)
 clear HO_8
 clear HO_9
 clear HB
 have HO_8 := n0_
 have HO_9 := n1_
 have HO131 := n2_
 have HB := n3_
 clear n0_ n1_ n2_ n3_
 clear hb ho31
 obtain ⟨Ao32, co32, eo32⟩ := Kd.R_slice HO131.out
 (first | subst eo32 | (injection eo32 with f1_ f2_ f3_; have f4_ := f1_.symm; have f5_ := f3_.symm; clear f1_ f2_ f3_; subst f4_; subst f5_))
 refine hK.out _ _ (((HB.out.cell (Wc w _ hw128_0)).trans hw128_0)) (fun hHeld => ?_)
 clear hK K
 refine norm_ (a' := ?_) ?_ ?_
 rotate_left
 {
 show Act.put _ (some 82) _ = _
 simp only [Act.put, Q3, i64_w, i32_w]
 rfl}
 refine pure_ (i := 7) (N := some 83) (v := ?_) (a' := ?_) #[true, true, true, true, true, true, true, true, false, false] rfl rfl (any_of HT_.out (by kernel_rfl)) (fun _ _ _ h => h) (Or.inl ⟨by rfl, ?_⟩) ?_ ?_
 rotate_left
 {
 intro w'
 go_simp
 with_reducible rfl}
 rotate_left
 {
 simp only [Act.put, Q3, i64_w, i32_w]
 rfl}
 refine one_ (i := 8) (N := some 11) #[true, true, true, true, true, true, true, true, true, false] rfl rfl (one_of HT_.out (by kernel_rfl)) (by decide) (fun K hK => ?_)
 refine box_step ?hg (N := 11) ?hd (cs := #[.int .i64 0, .bool false, .slice none 0 0]) (t := 97) ?hr ?_; (case hd => rfl); (case hg => rfl); (case hr => first | (go_simp; done) | (go_simp; rfl))
 intro gb132 hg w33 hbox hb
 have n0_ := Aside0.mk (Kd.R_below (by (with_reducible repeat (first | apply Ra | apply Rb | apply Rc)); exact HO_8.out) hb)
 have n1_ := Aside0.mk (Kd.N_below (Kd.N_elderB (by (with_reducible repeat (first | apply Kd.N_alloc | apply Kd.N_drewN | apply Kd.N_drew)); exact HO_9.out) gb132 (Nat.le_of_eq hg.symm)) hb)
 have n2_ := Aside0.mk (Kd.R_below (by (with_reducible repeat (first | apply Ra | apply Rb | apply Rc)); exact HO131.out) hb)
 have n3_ := Aside0.mk (below_step (by repeat (first | (with_reducible first | exact HB.out | apply Ba | apply Bb | apply Bc) | exact HB.out)) hb)
 have n4_ := Aside0.mk (hbox)
 have n5_ := Aside0.mk ((by rw [hg]; exact (below_size (by repeat (first | (with_reducible first | exact HB.out | apply Ba | apply Bb | apply Bc) | exact HB.out))) : w.heap.size ≤ gb132))
 have n6_ := Aside0.mk ((by rw [hg]; exact (below_size (by repeat (first | (with_reducible first | exact HB.out | apply Ba | apply Bb | apply Bc) | exact HB.out))) : w.heap.size ≤ gb132))
 clear HO_8
 clear HO_9
 clear HO131
 clear HB
 have HO_8 := n0_
 have HO_9 := n1_
 have HO131 := n2_
 have HB := n3_
 have BK132 := n4_
 have GW132 := n5_
 have GE132 := n6_
 clear n0_ n1_ n2_ n3_ n4_ n5_ n6_
 clear hb hbox hg
 refine hK.out _ _ (((HB.out.cell (Wc w _ hw128_0)).trans hw128_0)) (fun hHeld => ?_)
 clear hK K
 refine norm_ (a' := ?_) ?_ ?_
 rotate_left
 {
 show Act.put _ (some 11) _ = _
 simp only [Act.put, Q3, i64_w, i32_w]
 rfl}
 exact norm_ (by simp only [putAll, Act.put, Q3]) (hCont (.slice Ao32 y129.length co32, gb132) _ ⟨hHeld, (by (with_reducible repeat (first | apply Ra | apply Rb | apply Rc)); exact Kd.R_mono HO131.out (fun _ hk => hk.2)), (by (with_reducible repeat (first | apply Ra | apply Rb | apply Rc)); exact Kd.R_mono HO_8.out (fun _ hk => hk.2)), (by (with_reducible repeat (first | apply Kd.N_alloc | apply Kd.N_drewN | apply Kd.N_drew)); exact Kd.N_mono HO_9.out (fun _ hk => ⟨hk.1.2, ⟨hk.1.1, hk.2⟩⟩)), (by (with_reducible repeat (first | refine blk_drewN ?_ _ | refine blk_drew ?_ | refine blk_alloc ?_ _)); exact BK132.out), GW132.out, GE132.out, (by repeat (first | (with_reducible first | exact HB.out | apply Ba | apply Bb | apply Bc | refine below_set ?_ GE132.out) | exact HB.out))⟩)}
 {
 skip
 refine box_step ?hg (N := 11) ?hd (cs := #[.int .i64 0, .bool false, .slice none 0 0]) (t := 97) ?hr ?_; (case hd => rfl); (case hg => rfl); (case hr => first | (go_simp; done) | (go_simp; rfl))
 intro gb132 hg w30 hbox hb
 have n0_ := Aside0.mk (Kd.R_below (by (with_reducible repeat (first | apply Ra | apply Rb | apply Rc)); exact HO_8.out) hb)
 have n1_ := Aside0.mk (Kd.N_below (Kd.N_elderB (by (with_reducible repeat (first | apply Kd.N_alloc | apply Kd.N_drewN | apply Kd.N_drew)); exact HO_9.out) gb132 (Nat.le_of_eq hg.symm)) hb)
 have n2_ := Aside0.mk (below_step (by repeat (first | (with_reducible first | exact HB.out | apply Ba | apply Bb | apply Bc) | exact HB.out)) hb)
 have n3_ := Aside0.mk (hbox)
 have n4_ := Aside0.mk ((by rw [hg]; exact (below_size (by repeat (first | (with_reducible first | exact HB.out | apply Ba | apply Bb | apply Bc) | exact HB.out))) : w.heap.size ≤ gb132))
 have n5_ := Aside0.mk ((by rw [hg]; exact (below_size (by repeat (first | (with_reducible first | exact HB.out | apply Ba | apply Bb | apply Bc) | exact HB.out))) : w.heap.size ≤ gb132))
 clear HO_8
 clear HO_9
 clear HB
 have HO_8 := n0_
 have HO_9 := n1_
 have HB := n2_
 have BK132 := n3_
 have GW132 := n4_
 have GE132 := n5_
 clear n0_ n1_ n2_ n3_ n4_ n5_
 clear hb hbox hg
 refine hK.out _ _ (((HB.out.cell (Wc w _ hw128_0)).trans hw128_0)) (fun hHeld => ?_)
 clear hK K
 refine norm_ (a' := ?_) ?_ ?_
 rotate_left
 {
 show Act.put _ (some 11) _ = _
 simp only [Act.put, Q3, i64_w, i32_w]
 rfl}
 refine one_ (i := 6) (N := some 82) #[true, true, true, true, true, true, true, false, true, false] rfl rfl (one_of HT_.out (by kernel_rfl)) (by decide) (fun K hK => ?_)
 refine Kd.R_make_step (Kd.int .i64) _ 3 (by rfl) (N := 82) rfl 51 _ _ rfl (l1.length : Int) rfl rfl Try.underlying51 (.int .i64 0) 8 info3 rfl (by decide) (by omega) 0 (ok := fun _ => True) (okp := fun _ => True) rfl (fun _ hk => hk) trivial (Od (by first | (with_reducible assumption) | assumption)) (Nat.le_trans (Nat.mul_le_mul_right _ (Od (by first | (with_reducible assumption) | assumption) : (l1.length : Int).toNat ≤ 35184372088832)) (by omega)) (Below.refl _ _) (Nat.le_refl _) ?_
 intro v130 w31 ho32 hb hg_ hnew_
 clear hg_ hnew_
 (first | rw [← Ny129.out] at ho32 | (simp only [Int.reduceToNat] at ho32; rw [← Ny129.out] at ho32))
 have n0_ := Aside0.mk (Kd.R_elder' (by (with_reducible repeat (first | apply Ra | apply Rb | apply Rc)); exact HO_8.out) (Kd.R_base ho32) hb)
 have n1_ := Aside0.mk (Kd.N_elder' (by (with_reducible repeat (first | apply Kd.N_alloc | apply Kd.N_drewN | apply Kd.N_drew)); exact HO_9.out) (Kd.R_base ho32) hb)
 have n2_ := Aside0.mk (Kd.R_lower (Kd.R_new' ho32 (Kd.R_lt (by (with_reducible repeat (first | apply Ra | apply Rb | apply Rc)); exact HO_8.out))) (below_size (by repeat (first | (with_reducible first | exact HB.out | apply Ba | apply Bb | apply Bc | refine below_set ?_ GE132.out) | exact HB.out))))
 have n3_ := Aside0.mk (blk_below (g := gb132) (o := .cells #[.int .i64 0, .bool false, .slice none 0 0] 97 (0, 0)) (by (with_reducible repeat (first | refine blk_drewN ?_ _ | refine blk_drew ?_ | refine blk_alloc ?_ _)); exact BK132.out) hb)
 have n4_ := Aside0.mk (below_step (by repeat (first | (with_reducible first | exact HB.out | apply Ba | apply Bb | apply Bc | refine below_set ?_ GE132.out) | exact HB.out)) hb)
 clear HO_8
 clear HO_9
 clear BK132
 clear HB
 have HO_8 := n0_
 have HO_9 := n1_
 have HO131 := n2_
 have BK132 := n3_
 have HB := n4_
 clear n0_ n1_ n2_ n3_ n4_
 clear hb ho32
 obtain ⟨Ao33, co33, eo33⟩ := Kd.R_slice HO131.out
 (first | subst eo33 | (injection eo33 with f1_ f2_ f3_; have f4_ := f1_.symm; have f5_ := f3_.symm; clear f1_ f2_ f3_; subst f4_; subst f5_))
 refine hK.out _ _ (((HB.out.cell (Wc w _ hw128_0)).trans hw128_0)) (fun hHeld => ?_)
 clear hK K
 refine norm_ (a' := ?_) ?_ ?_
 rotate_left
 {
 show Act.put _ (some 82) _ = _
 simp only [Act.put, Q3, i64_w, i32_w]
 rfl}
 refine pure_ (i := 7) (N := some 83) (v := ?_) (a' := ?_) #[true, true, true, true, true, true, true, true, true, false] rfl rfl (any_of HT_.out (by kernel_rfl)) (fun _ _ _ h => h) (Or.inl ⟨by rfl, ?_⟩) ?_ ?_
 rotate_left
 {
 intro w'
 go_simp
 with_reducible rfl}
 rotate_left
 {
 simp only [Act.put, Q3, i64_w, i32_w]
 rfl}
 exact norm_ (by simp only [putAll, Act.put, Q3]) (hCont (.slice Ao33 y129.length co33, gb132) _ ⟨hHeld, (by (with_reducible repeat (first | apply Ra | apply Rb | apply Rc)); exact Kd.R_mono HO131.out (fun _ hk => hk.2)), (by (with_reducible repeat (first | apply Ra | apply Rb | apply Rc)); exact Kd.R_mono HO_8.out (fun _ hk => hk.2)), (by (with_reducible repeat (first | apply Kd.N_alloc | apply Kd.N_drewN | apply Kd.N_drew)); exact Kd.N_mono HO_9.out (fun _ hk => ⟨hk.2, ⟨hk.1.1, hk.1.2⟩⟩)), (by (with_reducible repeat (first | refine blk_drewN ?_ _ | refine blk_drew ?_ | refine blk_alloc ?_ _)); exact BK132.out), GW132.out, GE132.out, (by repeat (first | (with_reducible first | exact HB.out | apply Ba | apply Bb | apply Bc | refine below_set ?_ GE132.out) | exact HB.out))⟩)}}
 rintro ⟨v130, gb132⟩ w34 ⟨hS_, h0_, h1_, h2_, h3_, h4_, h5_, h6_⟩
 have n0_ : Aside0 (Kd.R (Kd.int .i64) 3 w34 w.heap.size (fun k_ => some k_ ≠ (v125 : Value).ownBlock) v130 y129) := ⟨h0_⟩
 have n1_ : Aside0 (Kd.R (Kd.int .i64) 3 w34 w.heap.size (fun k_ => some k_ ≠ (v130 : Value).ownBlock) v125 x8_3) := ⟨h1_⟩
 have n2_ : Aside0 (Kd.N k97 97 w34 w.heap.size (fun k_ => some k_ ≠ (v130 : Value).ownBlock ∧ some k_ ≠ (v125 : Value).ownBlock ∧ k_ ≠ gb132) u9 x9_3) := ⟨h2_⟩
 have n3_ : Aside0 (w34.heap[gb132]? = some (.cells #[.int .i64 0, .bool false, .slice none 0 0] 97 (0, 0))) := ⟨h3_⟩
 have n4_ : Aside0 (w.heap.size ≤ gb132) := ⟨h4_⟩
 have n5_ : Aside0 (w.heap.size ≤ gb132) := ⟨h5_⟩
 have n6_ : Aside0 (Below w.heap.size w w34) := ⟨h6_⟩
 clear HO_8
 clear HO_9
 clear HB
 clear h0_ h1_ h2_ h3_ h4_ h5_ h6_
 have HO131 := n0_
 have HO_8 := n1_
 have HO_9 := n2_
 have BK132 := n3_
 have GW132 := n4_
 have GE132 := n5_
 have HB := n6_
 clear n0_ n1_ n2_ n3_ n4_ n5_ n6_
 have hHeld : w34.cell? (ad127.add (x10_3).toNat) = some (.int .i64 (rd l1 x10_3)) := hS_
 obtain ⟨Ao35, co35, eo35⟩ := Kd.R_slice HO131.out
 (first | subst eo35 | (injection eo35 with f1_ f2_ f3_; have f4_ := f1_.symm; have f5_ := f3_.symm; clear f1_ f2_ f3_; subst f4_; subst f5_))
 refine norm_ (a' := ?_) ?_ ?_
 rotate_left
 {
 simp only [putAll, Act.put, Q3]
 rfl}
 refine one_ (i := 9) (N := none) #[true, true, true, true, true, true, true, true, true, true] rfl rfl (one_of HT_.out (by kernel_rfl)) (by decide) (fun K hK => ?_)
 have hs36 : w34.cell? ⟨gb132, 0, none⟩ = some (.int .i64 0) := (blk_cell BK132.out 0).trans rfl
 have hfs36 := blk_frozen BK132.out 0
 have hs37 : w34.cell? ⟨gb132, 1, none⟩ = some (.bool false) := (blk_cell BK132.out 1).trans rfl
 have hfs37 := blk_frozen BK132.out 1
 have hs38 : w34.cell? ⟨gb132, 2, none⟩ = some (.slice none 0 0) := (blk_cell BK132.out 2).trans rfl
 have hfs38 := blk_frozen BK132.out 2
 refine skip_ (w1 := ?_) (by rfl) rfl ?_ ?_
 rotate_left
 {
 go_simp
 rfl}
 refine hK.out _ _ (((cell_far (p := ⟨gb132, _, none⟩) (by first | exact Nat.ne_of_lt (Nat.lt_of_lt_of_le (by have := Wc _ _ hw128_0; first | rwa [add_block] at this | exact this) GW132.out) | (rw [add_block]; exact Nat.ne_of_lt (Nat.lt_of_lt_of_le (by have := Wc _ _ hw128_0; first | rwa [add_block] at this | exact this) GW132.out)) | (show (Addr.add _ _).block ≠ _; rw [add_block]; exact Nat.ne_of_lt (Nat.lt_of_lt_of_le (by have := Wc _ _ hw128_0; first | rwa [add_block] at this | exact this) GW132.out)) | (dsimp only; exact Nat.ne_of_lt (Nat.lt_of_lt_of_le (by have := Wc _ _ hw128_0; first | rwa [add_block] at this | exact this) GW132.out))) _).trans (((cell_far (p := ⟨gb132, _, none⟩) (by first | exact Nat.ne_of_lt (Nat.lt_of_lt_of_le (by have := Wc _ _ hw128_0; first | rwa [add_block] at this | exact this) GW132.out) | (rw [add_block]; exact Nat.ne_of_lt (Nat.lt_of_lt_of_le (by have := Wc _ _ hw128_0; first | rwa [add_block] at this | exact this) GW132.out)) | (show (Addr.add _ _).block ≠ _; rw [add_block]; exact Nat.ne_of_lt (Nat.lt_of_lt_of_le (by have := Wc _ _ hw128_0; first | rwa [add_block] at this | exact this) GW132.out)) | (dsimp only; exact Nat.ne_of_lt (Nat.lt_of_lt_of_le (by have := Wc _ _ hw128_0; first | rwa [add_block] at this | exact this) GW132.out))) _).trans (((cell_far (p := ⟨gb132, _, none⟩) (by first | exact Nat.ne_of_lt (Nat.lt_of_lt_of_le (by have := Wc _ _ hw128_0; first | rwa [add_block] at this | exact this) GW132.out) | (rw [add_block]; exact Nat.ne_of_lt (Nat.lt_of_lt_of_le (by have := Wc _ _ hw128_0; first | rwa [add_block] at this | exact this) GW132.out)) | (show (Addr.add _ _).block ≠ _; rw [add_block]; exact Nat.ne_of_lt (Nat.lt_of_lt_of_le (by have := Wc _ _ hw128_0; first | rwa [add_block] at this | exact this) GW132.out)) | (dsimp only; exact Nat.ne_of_lt (Nat.lt_of_lt_of_le (by have := Wc _ _ hw128_0; first | rwa [add_block] at this | exact this) GW132.out))) _).trans (hHeld))))))) (fun hHeld => ?_)
 clear hK K
 refine done_ (done_of HT_.out (by kernel_rfl)) ?_
 have n0_ : Aside0 (Kd.R (Kd.int .i64) 3 (((w34.setCell ⟨gb132, 0, none⟩ (.int .i64 (rd l1 x10_3))).setCell ⟨gb132, 1, none⟩ (.bool true)).setCell ⟨gb132, 2, none⟩ (.slice Ao35 y129.length co35)) w.heap.size (fun k_ => some k_ ≠ (.slice Ao35 y129.length co35 : Value).ownBlock) v125 x8_3) := ⟨by (with_reducible repeat (first | apply Ra | apply Rb | apply Rc)); exact Kd.R_mono (Kd.R_far (p := ⟨gb132, 2, none⟩) (Kd.R_far (p := ⟨gb132, 1, none⟩) (Kd.R_far (p := ⟨gb132, 0, none⟩) (Kd.R_types HO_8.out BK132.out (by decide)) (fun _ hk => hk.2) (.int .i64 (rd l1 x10_3))) (fun _ hk => hk.2) (.bool true)) (fun _ hk => hk.2) (.slice Ao35 y129.length co35)) (fun _ hk => hk.1)⟩
 have n1_ : Aside0 (Kd.N k97 97 (((w34.setCell ⟨gb132, 0, none⟩ (.int .i64 (rd l1 x10_3))).setCell ⟨gb132, 1, none⟩ (.bool true)).setCell ⟨gb132, 2, none⟩ (.slice Ao35 y129.length co35)) w.heap.size (fun k_ => some k_ ≠ (v125 : Value).ownBlock ∧ some k_ ≠ (.slice Ao35 y129.length co35 : Value).ownBlock ∧ k_ ≠ gb132) u9 x9_3) := ⟨by (with_reducible repeat (first | apply Kd.N_alloc | apply Kd.N_drewN | apply Kd.N_drew)); exact Kd.N_mono (Kd.N_far (p := ⟨gb132, 2, none⟩) (Kd.N_far (p := ⟨gb132, 1, none⟩) (Kd.N_far (p := ⟨gb132, 0, none⟩) (Kd.N_mono HO_9.out (fun k_ hk => (⟨hk, hk.2.2⟩ : _ ∧ k_ ≠ gb132))) (fun _ hk => hk.2) (.int .i64 (rd l1 x10_3))) (fun _ hk => hk.2) (.bool true)) (fun _ hk => hk.2) (.slice Ao35 y129.length co35)) (fun _ hk => ⟨hk.1.2.1, ⟨hk.1.1, hk.1.2.2⟩⟩)⟩
 have n2_ : Aside0 (Kd.R (Kd.int .i64) 3 (((w34.setCell ⟨gb132, 0, none⟩ (.int .i64 (rd l1 x10_3))).setCell ⟨gb132, 1, none⟩ (.bool true)).setCell ⟨gb132, 2, none⟩ (.slice Ao35 y129.length co35)) w.heap.size (fun k_ => some k_ ≠ (v125 : Value).ownBlock) (.slice Ao35 y129.length co35) y129) := ⟨by (with_reducible repeat (first | apply Ra | apply Rb | apply Rc)); exact Kd.R_mono (Kd.R_far (p := ⟨gb132, 2, none⟩) (Kd.R_far (p := ⟨gb132, 1, none⟩) (Kd.R_far (p := ⟨gb132, 0, none⟩) (Kd.R_types HO131.out BK132.out (by decide)) (fun _ hk => hk.2) (.int .i64 (rd l1 x10_3))) (fun _ hk => hk.2) (.bool true)) (fun _ hk => hk.2) (.slice Ao35 y129.length co35)) (fun _ hk => hk.1)⟩
 have n3_ : Aside0 ((((w34.setCell ⟨gb132, 0, none⟩ (.int .i64 (rd l1 x10_3))).setCell ⟨gb132, 1, none⟩ (.bool true)).setCell ⟨gb132, 2, none⟩ (.slice Ao35 y129.length co35)).heap[gb132]? = some (.cells #[.int .i64 (rd l1 x10_3), .bool true, .slice Ao35 y129.length co35] 97 (0, 0))) := ⟨by (with_reducible repeat (first | refine blk_drewN ?_ _ | refine blk_drew ?_ | refine blk_alloc ?_ _)); refine blk_put (cs := #[.int .i64 (rd l1 x10_3), .bool true, .slice none 0 0]) ?_ 2 _ rfl; (with_reducible repeat (first | refine blk_drewN ?_ _ | refine blk_drew ?_ | refine blk_alloc ?_ _)); refine blk_put (cs := #[.int .i64 (rd l1 x10_3), .bool false, .slice none 0 0]) ?_ 1 _ rfl; (with_reducible repeat (first | refine blk_drewN ?_ _ | refine blk_drew ?_ | refine blk_alloc ?_ _)); refine blk_put (cs := #[.int .i64 0, .bool false, .slice none 0 0]) ?_ 0 _ rfl; (with_reducible repeat (first | refine blk_drewN ?_ _ | refine blk_drew ?_ | refine blk_alloc ?_ _)); exact BK132.out⟩
 have n4_ : Aside0 (Below w.heap.size w (((w34.setCell ⟨gb132, 0, none⟩ (.int .i64 (rd l1 x10_3))).setCell ⟨gb132, 1, none⟩ (.bool true)).setCell ⟨gb132, 2, none⟩ (.slice Ao35 y129.length co35))) := ⟨by repeat (first | (with_reducible first | exact HB.out | apply Ba | apply Bb | apply Bc | refine below_set ?_ GE132.out) | exact HB.out)⟩
 (try clear HO_8)
 (try clear HO_9)
 (try clear HO131)
 (try clear BK132)
 (try clear HB)
 generalize (((w34.setCell ⟨gb132, 0, none⟩ (.int .i64 (rd l1 x10_3))).setCell ⟨gb132, 1, none⟩ (.bool true)).setCell ⟨gb132, 2, none⟩ (.slice Ao35 y129.length co35)) = w39 at n0_ n1_ n2_ n3_ n4_ ⊢
 have HO_8 := n0_
 have HO_9 := n1_
 have HO131 := n2_
 have BK132 := n3_
 have HB := n4_
 clear n0_ n1_ n2_ n3_ n4_
 have hcz40_0 : w39.cell? ⟨gb132, 0, none⟩ = some (.int .i64 (rd l1 x10_3)) := (blk_cell BK132.out 0).trans rfl
 have hcz40_1 : w39.cell? ⟨gb132, 1, none⟩ = some (.bool true) := (blk_cell BK132.out 1).trans rfl
 have hcz40_2 : w39.cell? ⟨gb132, 2, none⟩ = some (.slice Ao35 y129.length co35) := (blk_cell BK132.out 2).trans rfl
 have hfz40_0 := blk_frozen BK132.out 0
 have hfz40_1 := blk_frozen BK132.out 1
 have hfz40_2 := blk_frozen BK132.out 2
 have p28 : 0 ≤ (x10_3 : Int) := Od (by first | (with_reducible assumption) | assumption)
 have q28 : (x10_3 : Int) < ((y129.length : Int) : Int) := Od (by first | (with_reducible assumption) | assumption)
 obtain ⟨go28, co28, eo28, gb28, gl28, cl28, HG28⟩ := Kd.R_form HO131.out (by omega)
 (first | cases eo28 | (injection eo28 with ea_ en_ ec_; (first | subst ea_ | (injection ea_ with ea_; subst ea_)); subst ec_; clear en_))
 have GB28 := Aside0.mk gb28
 have GG28 := Aside0.mk HG28
 clear gb28 gl28 HG28
 obtain ⟨hx28_0, hf28_0⟩ := Kd.R_celln 0 HO131.out (x10_3 : Int) p28 q28
 replace p28 := eq_true p28
 replace q28 := eq_true q28
 obtain ⟨hy41_, hz41_⟩ := Kd.R_celln 0 HO131.out (x10_3 : Int) (Od (by first | (with_reducible assumption) | assumption)) (Od (by first | (with_reducible assumption) | assumption))
 have HP41 := Kd.R_putg HO131.out (x10_3 : Int) 1
 try go_wp2_with (first | ((with_reducible refine gate_store (t := 3) (p := 87) rfl ?_); refine store_event (t := 3) (p := 87) (v := ?vo_w42) (w1 := (w39.setCell ⟨go28, (x10_3 : Int).toNat, none⟩ (.int .i64 1))) ?hg ?ho ?hn ?hr ?_; (case ho => rfl); (case hg => rfl); (case hn => rfl); (case hr => first | (go_simp; done) | (go_simp; rfl)); intro w42 hw; have hg : w39.grownBy w42 (some go28) := (by rw [hw]; exact HP41.2); have hp_ : Kd.R (Kd.int .i64) 3 w42 w.heap.size (fun k_ => some k_ ≠ (v125 : Value).ownBlock) (.slice (some ⟨go28, 0, none⟩) y129.length co35) y133 := (by rw [hw, Ny133.out]; exact HP41.1); clear HP41; have n0_ := Aside0.mk (Kd.R_after (v := (.slice (some ⟨go28, 0, none⟩) y129.length co35)) (v1 := (.slice (some ⟨go28, 0, none⟩) y129.length co35)) (ok := (fun _ => True)) (by (with_reducible repeat (first | apply Ra | apply Rb | apply Rc)); exact Kd.R_mono HO_8.out (fun _ hk => ⟨trivial, hk⟩)) hg (.inl rfl)); have n1_ := Aside0.mk (Kd.N_afterv (v := (.slice (some ⟨go28, 0, none⟩) y129.length co35)) (v1 := (.slice (some ⟨go28, 0, none⟩) y129.length co35)) (ok := (fun k_ => some k_ ≠ (v125 : Value).ownBlock ∧ k_ ≠ gb132)) (by (with_reducible repeat (first | apply Kd.N_alloc | apply Kd.N_drewN | apply Kd.N_drew)); exact Kd.N_mono HO_9.out (fun _ hk => ⟨⟨hk.1, hk.2.2⟩, hk.2.1⟩)) hg (.inl rfl)); have n2_ := Aside0.mk (hp_); have n3_ := Aside0.mk (blk_grown (g := gb132) (o := .cells #[.int .i64 (rd l1 x10_3), .bool true, .slice (some ⟨go28, 0, none⟩) y129.length co35] 97 (0, 0)) (by (with_reducible repeat (first | refine blk_drewN ?_ _ | refine blk_drew ?_ | refine blk_alloc ?_ _)); exact BK132.out) hg (Kd.R_ne HO131.out BK132.out (by decide))); have n4_ := Aside0.mk ((by rw [hw]; exact below_set (HB.out) GB28.out : Below w.heap.size w w42)); clear HO_8 HO_9 HO131 BK132 HB; have HO_8 := n0_; have HO_9 := n1_; have HO131 := n2_; have BK132 := n3_; have HB := n4_; clear n0_ n1_ n2_ n3_ n4_; clear hg hw hp_))
 go_loopg [12] k3 (fun kq v12 w' => ∃ (x12_4 : Int), v12 = .int .i64 x12_4 ∧ Aside0 (vitrineref02_Limit.l2 kq a0 l1 x6_2 x8_3 x9_3 x10_3 x12_4 (rd l1 x10_3) true y133 = some (r1, r2)) ∧ Aside0 (kq ≤ k3) ∧ Aside0 (Kd.R (Kd.int .i64) 3 w' w.heap.size (fun k_ => some k_ ≠ ((.slice (some ⟨go28, 0, none⟩) y129.length co35) : Value).ownBlock) v125 x8_3) ∧ Aside0 (Kd.N k97 97 w' w.heap.size (fun k_ => some k_ ≠ (v125 : Value).ownBlock ∧ some k_ ≠ ((.slice (some ⟨go28, 0, none⟩) y129.length co35) : Value).ownBlock ∧ k_ ≠ gb132) u9 x9_3) ∧ Aside0 (Kd.R (Kd.int .i64) 3 w' w.heap.size (fun k_ => some k_ ≠ (v125 : Value).ownBlock) (.slice (some ⟨go28, 0, none⟩) y129.length co35) y133) ∧ Aside0 (w'.heap[gb132]? = some (.cells #[.int .i64 (rd l1 x10_3), .bool true, (.slice (some ⟨go28, 0, none⟩) y129.length co35)] 97 (0, 0))) ∧ Aside0 (Below w.heap.size w w'))
 case atStart => exact ⟨(0), (by first | rfl | (simp; done) | (simp [*]; done)), H', ⟨Nat.le_refl _⟩, ⟨by (with_reducible repeat (first | apply Ra | apply Rb | apply Rc)); exact Kd.R_mono HO_8.out (fun _ hk => hk.2)⟩, ⟨by (with_reducible repeat (first | apply Kd.N_alloc | apply Kd.N_drewN | apply Kd.N_drew)); exact Kd.N_mono HO_9.out (fun _ hk => ⟨hk.1.1, ⟨hk.2, hk.1.2⟩⟩)⟩, ⟨by (with_reducible repeat (first | apply Ra | apply Rb | apply Rc)); exact HO131.out⟩, ⟨by (with_reducible repeat (first | refine blk_drewN ?_ _ | refine blk_drew ?_ | refine blk_alloc ?_ _)); exact BK132.out⟩, ⟨by repeat (first | (with_reducible first | exact HB.out | apply Ba | apply Bb | apply Bc | refine below_set ?_ GE132.out) | exact HB.out)⟩⟩
 case round => (as_aux_lemma => (
 clear H'
 try clear c1
 try clear p1
 try clear q1
 try clear hx1
 try clear c2
 try clear p2
 try clear q2
 try clear hx2
 try clear hf2
 try clear c4
 try clear c4b0
 try clear c4b1
 try clear c5
 try clear c5b0
 try clear c6
 try clear p6
 try clear c7
 try clear c7b0
 try clear c9
 try clear c9b0
 try clear c10
 try clear c10b0
 try clear c11
 try clear c12
 try clear c12b0
 try clear p12
 try clear q12
 try clear hx12
 try clear c13
 try clear c13b0
 try clear c14
 try clear c14b0
 try clear c15
 try clear c15b0
 try clear c15b1
 try clear c17
 try clear c17b0
 try clear c18
 try clear c18b0
 try clear c18b1
 try clear c19
 try clear c19b0
 try clear c19b1
 try clear c22
 try clear c22b0
 try clear c23
 try clear c23b0
 try clear c24
 try clear c24b0
 try clear c24b1
 try clear c25
 try clear c25b0
 try clear c25b1
 try clear c26
 try clear c26b0
 try clear c26b1
 try clear c27
 try clear c27b0
 try clear p28
 try clear q28
 try clear hx28
 try clear hf28
 try clear hcz40_0
 try clear hcz40_1
 try clear hcz40_2
 try clear hfz40_0
 try clear hfz40_1
 try clear hfz40_2
 try clear hx121_0
 try clear hx122_0
 try clear hx123_0
 try clear hx127_0
 try clear hx128_0
 try clear hx28_0
 try clear p1
 try clear p12
 try clear p121
 try clear p122
 try clear p123
 try clear p127
 try clear p128
 try clear p2
 try clear p28
 try clear p6
 try clear q1
 try clear q12
 try clear q121
 try clear q122
 try clear q123
 try clear q127
 try clear q128
 try clear q28
 obtain ⟨x12_4, rfl, HA, HK4, HO_8, HO_9, HO_133002, BK132, HB⟩ := hrel
 have hl133002_4 := (Kd.R_reads' HO_133002.out).1
 rw [hl133002_4] at HO_133002
 (try simp only [hl133002_4])
 (try simp only [hl133002_4] at BK132)
 (try simp only [hl133002_4] at HO_8)
 (try simp only [hl133002_4] at HO_9)
 cases gk with
 | zero => exact absurd HA.out (by simp [vitrineref02_Limit.l2])
 | succ k4 => (
 have H := HA.out
 clear HA
 simp only [vitrineref02_Limit.l2] at H
 by_cases c43 : x12_4 < (x9_3.length : Int)
 {
 rw [if_pos c43] at H
 have c43b0 : decide (x12_4 < (x9_3.length : Int)) = true := decide_eq_true c43
 clear c43
 by_cases c44 : 0 ≤ x12_4
 {
 rw [if_pos c44] at H
 have c44b0 : decide (0 ≤ x12_4) = true := decide_eq_true c44
 clear c44
 by_cases c45 : ((rd_T97 x9_3 x12_4).f0) ≤ (rd l1 x10_3)
 {
 rw [if_pos c45] at H
 have c45b0 : decide (((rd_T97 x9_3 x12_4).f0) ≤ (rd l1 x10_3)) = true := decide_eq_true c45
 clear c45
 have H' := Aside0.mk H
 clear H
 try go_wp2
 have n0_ := Aside0.mk (Rc HO_8.out)
 have n1_ := Aside0.mk (Kd.N_drew HO_9.out)
 have n2_ := Aside0.mk (Rc HO_133002.out)
 have n3_ := Aside0.mk (blk_drew BK132.out)
 have n4_ := Aside0.mk (Bc HB.out)
 clear HO_8
 clear HO_9
 clear HO_133002
 clear BK132
 clear HB
 have HO_8 := n0_
 have HO_9 := n1_
 have HO_133002 := n2_
 have BK132 := n3_
 have HB := n4_
 clear n0_ n1_ n2_ n3_ n4_
 obtain ⟨Ao47, co47, eo47⟩ := Kd.N_slice HO_9.out
 (first | subst eo47 | (injection eo47 with f1_ f2_ f3_; have f4_ := f1_.symm; have f5_ := f3_.symm; clear f1_ f2_ f3_; subst f4_; subst f5_))
 have p134 : 0 ≤ (x12_4 : Int) := Od (by first | (with_reducible assumption) | assumption)
 have q134 : x12_4 < (x9_3.length : Int) := Od (by first | (with_reducible assumption) | assumption)
 obtain ⟨ad134, A134_2, c134_2, e134, hx134_0, hx134_1, hx134_2, hl134_2, hi134_2⟩ := at_T97 (Kd.N_reads' HO_9.out).2.2 x12_4 p134 q134
 cases e134
 obtain ⟨ce134, hce134, hMe134, hcc134⟩ := Kd.N_get HO_9.out z97 x12_4 p134 (by first | exact q134 | exact Od (by first | (with_reducible assumption) | assumption) | (have e_ := (Kd.N_reads' HO_9.out).1; omega))
 obtain ⟨ua134_2, uc134_2, rfl, ul134_2, ge134_2⟩ := k97_openF hMe134
 have hv134_2 := hcc134 2 _ rfl
 rw [add_field _ _ 2 (by omega)] at hv134_2
 replace hv134_2 := Option.some.inj (hv134_2.symm.trans hx134_2)
 injection hv134_2 with hva_ hvn_ hvc_
 rw [hva_] at ge134_2
 rw [hvc_] at ul134_2
 have HL134_2 := Aside0.mk (show Kd.V (Kd.int .i64) 3 _ w.heap.size _ _ ((rd_T97 x9_3 x12_4).f2) from Kd.V_mk ul134_2 ge134_2)
 clear hva_ hvn_ hvc_ ge134_2 ul134_2
 clear hcc134 hce134
 have HR134_2 := Aside0.mk hi134_2
 have HC134_2 := Aside0.mk hl134_2
 clear hi134_2 hl134_2
 replace p134 := eq_true p134
 replace q134 := eq_true q134
 refine start_ (n := 14) (S := fun w' => w'.cell? ⟨gb132, 0, none⟩ = some (.int .i64 (rd l1 x10_3)) ∧ w'.cell? ⟨gb132, 1, none⟩ = some (.bool true) ∧ w'.cell? ⟨gb132, 2, none⟩ = some (.slice (some ⟨go28, 0, none⟩) y133.length co35) ∧ w'.cell? (ad134.add ((x12_4).toNat * 3)) = some (.int .i64 ((rd_T97 x9_3 x12_4).f0)) ∧ w'.cell? ⟨(ad134.add ((x12_4).toNat * 3)).block, (ad134.add ((x12_4).toNat * 3)).off + 1, none⟩ = some (.bool ((rd_T97 x9_3 x12_4).f1)) ∧ w'.cell? ⟨(ad134.add ((x12_4).toNat * 3)).block, (ad134.add ((x12_4).toNat * 3)).off + 2, none⟩ = some (.slice A134_2 ((rd_T97 x9_3 x12_4).f2).length c134_2)) (ds := []) #[false, false, false, false, false, false, false, false, false, false, false, false, false, false] (by kernel_rfl) rfl rfl ⟨(blk_cell BK132.out 0).trans rfl, (blk_cell BK132.out 1).trans rfl, (blk_cell BK132.out 2).trans rfl, hx134_0, hx134_1, hx134_2⟩ (fun hHeld => ?_); refine with_tabW vitrineref02_Limit.tab22 vitrineref02_Limit.bits22 (fun HT_ HW_ => ?_)
 generalize wr.drew = w46 at HO_8 HO_9 HO_133002 BK132 HB HL134_2 HR134_2 hx134_0 hx134_1 hx134_2 hHeld ⊢
 refine pure_ (i := 0) (N := some 88) (v := ?_) (a' := ?_) #[true, false, false, false, false, false, false, false, false, false, false, false, false, false] rfl rfl (any_of HT_.out (by kernel_rfl)) (fun _ _ _ h => h) (Or.inl ⟨by rfl, ?_⟩) ?_ ?_
 rotate_left
 {
 intro w'
 go_simp
 with_reducible rfl}
 rotate_left
 {
 simp only [Act.put, Q3, i64_w, i32_w]
 rfl}
 refine pure_ (i := 1) (N := some 89) (v := ?_) (a' := ?_) #[true, true, false, false, false, false, false, false, false, false, false, false, false, false] rfl rfl (any_of HT_.out (by kernel_rfl)) (fun _ _ _ h => h) (Or.inl ⟨by rfl, ?_⟩) ?_ ?_
 rotate_left
 {
 intro w'
 go_simp
 with_reducible rfl}
 rotate_left
 {
 simp only [Act.put, Q3, i64_w, i32_w]
 rfl}
 refine pure_ (i := 2) (N := some 90) (v := ?_) (a' := ?_) #[true, true, true, false, false, false, false, false, false, false, false, false, false, false] rfl rfl (any_of HT_.out (by kernel_rfl)) (fun _ _ _ h => h) (Or.inl ⟨by rfl, ?_⟩) ?_ ?_
 rotate_left
 {
 intro w'
 go_simp
 with_reducible rfl}
 rotate_left
 {
 simp only [Act.put, Q3, i64_w, i32_w]
 rfl}
 refine pure_ (i := 3) (N := some 91) (v := ?_) (a' := ?_) #[true, true, true, true, false, false, false, false, false, false, false, false, false, false] rfl rfl (any_of HT_.out (by kernel_rfl)) (fun _ _ _ h => h) (Or.inl ⟨by rfl, ?_⟩) ?_ ?_
 rotate_left
 {
 intro w'
 go_simp
 with_reducible rfl}
 rotate_left
 {
 simp only [Act.put, Q3, i64_w, i32_w]
 rfl}
 refine pure_ (i := 4) (N := some 92) (v := ?_) (a' := ?_) #[true, true, true, true, true, false, false, false, false, false, false, false, false, false] rfl rfl (any_of HT_.out (by kernel_rfl)) (fun _ _ _ h => h) (Or.inl ⟨by rfl, ?_⟩) ?_ ?_
 rotate_left
 {
 intro w'
 go_simp
 with_reducible rfl}
 rotate_left
 {
 simp only [Act.put, Q3, i64_w, i32_w]
 rfl}
 refine pure_ (i := 5) (N := some 93) (v := ?_) (a' := ?_) #[true, true, true, true, true, true, false, false, false, false, false, false, false, false] rfl rfl (any_of HT_.out (by kernel_rfl)) (fun _ _ _ h => h) (Or.inl ⟨by rfl, ?_⟩) ?_ ?_
 rotate_left
 {
 intro w'
 go_simp
 with_reducible rfl}
 rotate_left
 {
 simp only [Act.put, Q3, i64_w, i32_w]
 rfl}
 refine pure_ (i := 6) (N := some 94) (v := ?_) (a' := ?_) #[true, true, true, true, true, true, true, false, false, false, false, false, false, false] rfl rfl (any_of HT_.out (by kernel_rfl)) (fun _ _ _ h => h) (Or.inl ⟨by rfl, ?_⟩) ?_ ?_
 rotate_left
 {
 intro w'
 go_simp
 with_reducible rfl}
 rotate_left
 {
 simp only [Act.put, Q3, i64_w, i32_w]
 rfl}
 refine pure_ (i := 7) (N := some 95) (v := ?_) (a' := ?_) #[true, true, true, true, true, true, true, true, false, false, false, false, false, false] rfl rfl (any_of HT_.out (by kernel_rfl)) (fun _ _ _ h => h) (Or.inl ⟨by rfl, ?_⟩) ?_ ?_
 rotate_left
 {
 intro w'
 go_simp
 with_reducible rfl}
 rotate_left
 {
 simp only [Act.put, Q3, i64_w, i32_w]
 rfl}
 refine pure_ (i := 8) (N := some 96) (v := ?_) (a' := ?_) #[true, true, true, true, true, true, true, true, true, false, false, false, false, false] rfl rfl (any_of HT_.out (by kernel_rfl)) (fun _ _ _ h => h) (Or.inl ⟨by rfl, ?_⟩) ?_ ?_
 rotate_left
 {
 intro w'
 go_simp
 with_reducible rfl}
 rotate_left
 {
 simp only [Act.put, Q3, i64_w, i32_w]
 rfl}
 refine pure_ (i := 10) (N := some 98) (v := ?_) (a' := ?_) #[true, true, true, true, true, true, true, true, true, false, true, false, false, false] rfl rfl (any_of HT_.out (by kernel_rfl)) (fun _ _ _ h => h) (Or.inl ⟨by rfl, ?_⟩) ?_ ?_
 rotate_left
 {
 intro w'
 go_simp
 with_reducible rfl}
 rotate_left
 {
 simp only [Act.put, Q3, i64_w, i32_w]
 rfl}
 refine take_ (i := 9) (N := some 97) (v := ?_) (a' := ?_) #[true, true, true, true, true, true, true, true, true, true, true, false, false, false] rfl rfl (take_ofW HT_.out HW_.out (by kernel_rfl)) (fun _ _ _ h => h) (Or.inl ⟨by rfl, ?_⟩) hHeld ?_ ?_
 rotate_left
 {
 rintro w' ⟨s0, s1, s2, s3, s4, s5⟩
 go_simp
 with_reducible rfl}
 rotate_left
 {
 simp only [Act.put, Q3, i64_w, i32_w]
 rfl}
 refine take_ (i := 11) (N := some 99) (v := ?_) (a' := ?_) #[true, true, true, true, true, true, true, true, true, true, true, true, false, false] rfl rfl (take_ofW HT_.out HW_.out (by kernel_rfl)) (fun _ _ _ h => h) (Or.inl ⟨by rfl, ?_⟩) hHeld ?_ ?_
 rotate_left
 {
 rintro w' ⟨s0, s1, s2, s3, s4, s5⟩
 go_simp
 with_reducible rfl}
 rotate_left
 {
 simp only [Act.put, Q3, i64_w, i32_w]
 rfl}
 refine pure_ (i := 12) (N := some 100) (v := ?_) (a' := ?_) #[true, true, true, true, true, true, true, true, true, true, true, true, true, false] rfl rfl (any_of HT_.out (by kernel_rfl)) (fun _ _ _ h => h) (Or.inl ⟨by rfl, ?_⟩) ?_ ?_
 rotate_left
 {
 intro w'
 go_simp
 with_reducible rfl}
 rotate_left
 {
 simp only [Act.put, Q3, i64_w, i32_w]
 rfl}
 refine pure_ (i := 13) (N := some 101) (v := ?_) (a' := ?_) #[true, true, true, true, true, true, true, true, true, true, true, true, true, true] rfl rfl (any_of HT_.out (by kernel_rfl)) (fun _ _ _ h => h) (Or.inl ⟨by rfl, ?_⟩) ?_ ?_
 rotate_left
 {
 intro w'
 go_simp
 with_reducible rfl}
 rotate_left
 {
 simp only [Act.put, Q3, i64_w, i32_w]
 rfl}
 refine done_ (done_of HT_.out (by kernel_rfl)) ?_
 try go_wp2
 (try simp only [← hl133002_4])
 go_roundg k4
 case measure => have := HJ2.out; have := HK2.out; have := HK3.out; have := HK4.out; omega
 case rel => exact ⟨(wrap64 (x12_4 + 1)), (by first | rfl | (simp; done) | (simp [*]; done)), H', ⟨by have := HJ2.out; have := HK2.out; have := HK3.out; have := HK4.out; omega⟩, ⟨by (try simp only [hl133002_4]); (with_reducible repeat (first | apply Ra | apply Rb | apply Rc)); exact HO_8.out⟩, ⟨by (try simp only [hl133002_4]); (with_reducible repeat (first | apply Kd.N_alloc | apply Kd.N_drewN | apply Kd.N_drew)); exact HO_9.out⟩, ⟨by (try simp only [hl133002_4]); (with_reducible repeat (first | apply Ra | apply Rb | apply Rc)); exact HO_133002.out⟩, ⟨by (try simp only [hl133002_4]); (with_reducible repeat (first | refine blk_drewN ?_ _ | refine blk_drew ?_ | refine blk_alloc ?_ _)); exact BK132.out⟩, ⟨by repeat (first | (with_reducible first | exact HB.out | apply Ba | apply Bb | apply Bc | refine below_set ?_ GE132.out) | exact HB.out)⟩⟩}
 {
 rw [if_neg c45] at H
 have c45b0 : decide (((rd_T97 x9_3 x12_4).f0) ≤ (rd l1 x10_3)) = false := decide_eq_false c45
 clear c45
 have c48b0 := eq_true (Od (by first | (with_reducible assumption) | assumption) : 0 ≤ x12_4)
 by_cases c49 : x12_4 ≤ (x9_3.length : Int)
 {
 rw [if_pos c49] at H
 have c49b0 := eq_true c49
 have c49b1 : decide (x12_4 ≤ (x9_3.length : Int)) = true := decide_eq_true c49
 clear c49
 obtain ⟨y135, hy135⟩ : ∃ y_ : List (S97), y_ = (x9_3.take (x12_4 : Int).toNat) := ⟨_, rfl⟩
 replace H : (if ([] : List (S97)).length + y135.length < 3518437208883 then ((some (([] : List (S97)) ++ y135 : List (S97))).bind fun y140 => (if y140.length < 3518437208883 then ((some (y140 ++ [(⟨(rd l1 x10_3), true, y133⟩ : S97)] : List (S97))).bind fun y143 => ((some (x9_3.drop (x12_4 : Int).toNat : List (S97))).bind fun y146 => (if y143.length + y146.length < 3518437208883 then (if x6_2 = 1 then (if 0 ≤ x10_3 then (if x10_3 < (x8_3.length : Int) then (some ((x8_3.set (x10_3 : Int).toNat 1), 0)) else (none)) else (none)) else (vitrineref02_Limit.l1 k4 a0 l1 x6_2 x8_3 (y143 ++ y146) (wrap64 (x10_3 + 1)))) else (none)))) else (none))) else (none)) = some (r1, r2) := by first | (rw [hy135]; with_reducible exact H) | (have H2_ := (Option.bind_some _ _).symm.trans H; rw [hy135]; with_reducible exact H2_) | (have H2_ := (Option.bind_some _ _).symm.trans H; with_reducible exact H2_) | with_reducible exact H | (rw [hy135]; exact H) | exact H
 have Ny135 := Aside0.mk hy135
 clear hy135
 by_cases c50 : ([] : List (S97)).length + y135.length < 3518437208883
 {
 rw [if_pos c50] at H
 have LMc50 := Aside0.mk c50
 clear c50
 obtain ⟨y140, hy140⟩ : ∃ y_ : List (S97), y_ = (([] : List (S97)) ++ y135) := ⟨_, rfl⟩
 replace H : (if y140.length < 3518437208883 then ((some (y140 ++ [(⟨(rd l1 x10_3), true, y133⟩ : S97)] : List (S97))).bind fun y143 => ((some (x9_3.drop (x12_4 : Int).toNat : List (S97))).bind fun y146 => (if y143.length + y146.length < 3518437208883 then (if x6_2 = 1 then (if 0 ≤ x10_3 then (if x10_3 < (x8_3.length : Int) then (some ((x8_3.set (x10_3 : Int).toNat 1), 0)) else (none)) else (none)) else (vitrineref02_Limit.l1 k4 a0 l1 x6_2 x8_3 (y143 ++ y146) (wrap64 (x10_3 + 1)))) else (none)))) else (none)) = some (r1, r2) := by first | (rw [hy140]; with_reducible exact H) | (have H2_ := (Option.bind_some _ _).symm.trans H; rw [hy140]; with_reducible exact H2_) | (have H2_ := (Option.bind_some _ _).symm.trans H; with_reducible exact H2_) | with_reducible exact H | (rw [hy140]; exact H) | exact H
 have Ny140 := Aside0.mk hy140
 clear hy140
 by_cases c51 : y140.length < 3518437208883
 {
 rw [if_pos c51] at H
 have LMc51 := Aside0.mk c51
 clear c51
 obtain ⟨y143, hy143⟩ : ∃ y_ : List (S97), y_ = (y140 ++ [(⟨(rd l1 x10_3), true, y133⟩ : S97)]) := ⟨_, rfl⟩
 replace H : ((some (x9_3.drop (x12_4 : Int).toNat : List (S97))).bind fun y146 => (if y143.length + y146.length < 3518437208883 then (if x6_2 = 1 then (if 0 ≤ x10_3 then (if x10_3 < (x8_3.length : Int) then (some ((x8_3.set (x10_3 : Int).toNat 1), 0)) else (none)) else (none)) else (vitrineref02_Limit.l1 k4 a0 l1 x6_2 x8_3 (y143 ++ y146) (wrap64 (x10_3 + 1)))) else (none))) = some (r1, r2) := by first | (rw [hy143]; with_reducible exact H) | (have H2_ := (Option.bind_some _ _).symm.trans H; rw [hy143]; with_reducible exact H2_) | (have H2_ := (Option.bind_some _ _).symm.trans H; with_reducible exact H2_) | with_reducible exact H | (rw [hy143]; exact H) | exact H
 have Ny143 := Aside0.mk hy143
 clear hy143
 have c52b0 := eq_true (Od (by first | (with_reducible assumption) | assumption) : 0 ≤ x12_4)
 have c53b0 := eq_true (Od (by first | (with_reducible assumption) | assumption) : x12_4 ≤ (x9_3.length : Int))
 obtain ⟨y146, hy146⟩ : ∃ y_ : List (S97), y_ = (x9_3.drop (x12_4 : Int).toNat) := ⟨_, rfl⟩
 replace H : (if y143.length + y146.length < 3518437208883 then (if x6_2 = 1 then (if 0 ≤ x10_3 then (if x10_3 < (x8_3.length : Int) then (some ((x8_3.set (x10_3 : Int).toNat 1), 0)) else (none)) else (none)) else (vitrineref02_Limit.l1 k4 a0 l1 x6_2 x8_3 (y143 ++ y146) (wrap64 (x10_3 + 1)))) else (none)) = some (r1, r2) := by first | (rw [hy146]; with_reducible exact H) | (have H2_ := (Option.bind_some _ _).symm.trans H; rw [hy146]; with_reducible exact H2_) | (have H2_ := (Option.bind_some _ _).symm.trans H; with_reducible exact H2_) | with_reducible exact H | (rw [hy146]; exact H) | exact H
 have Ny146 := Aside0.mk hy146
 clear hy146
 by_cases c54 : y143.length + y146.length < 3518437208883
 {
 rw [if_pos c54] at H
 have LMc54 := Aside0.mk c54
 clear c54
 obtain ⟨y151, hy151⟩ : ∃ y_ : List (S97), y_ = (y143 ++ y146) := ⟨_, rfl⟩
 replace H : (if x6_2 = 1 then (if 0 ≤ x10_3 then (if x10_3 < (x8_3.length : Int) then (some ((x8_3.set (x10_3 : Int).toNat 1), 0)) else (none)) else (none)) else (vitrineref02_Limit.l1 k4 a0 l1 x6_2 x8_3 y151 (wrap64 (x10_3 + 1)))) = some (r1, r2) := by first | (rw [hy151]; with_reducible exact H) | (have H2_ := (Option.bind_some _ _).symm.trans H; rw [hy151]; with_reducible exact H2_) | (have H2_ := (Option.bind_some _ _).symm.trans H; with_reducible exact H2_) | with_reducible exact H | (rw [hy151]; exact H) | exact H
 have Ny151 := Aside0.mk hy151
 clear hy151
 by_cases c55 : x6_2 = 1
 {
 rw [if_pos c55] at H
 have c55b0 : (x6_2 == 1) = true := beq_iff_eq.mpr c55
 have c55b1 : (x6_2 != 1) = false := bne_eq_false_iff_eq.mpr c55
 clear c55
 by_cases c56 : 0 ≤ x10_3
 {
 rw [if_pos c56] at H
 have c56b0 : decide (0 ≤ x10_3) = true := decide_eq_true c56
 clear c56
 by_cases c57 : x10_3 < (x8_3.length : Int)
 {
 rw [if_pos c57] at H
 have c57b0 : decide (x10_3 < (x8_3.length : Int)) = true := decide_eq_true c57
 clear c57
 obtain ⟨y154, hy154⟩ : ∃ y_ : List Int, y_ = (x8_3.set (x10_3 : Int).toNat 1) := ⟨_, rfl⟩
 replace H : (some (y154, 0)) = some (r1, r2) := by first | (rw [hy154]; with_reducible exact H) | (have H2_ := (Option.bind_some _ _).symm.trans H; rw [hy154]; with_reducible exact H2_) | (have H2_ := (Option.bind_some _ _).symm.trans H; with_reducible exact H2_) | with_reducible exact H | (rw [hy154]; exact H) | exact H
 have Ny154 := Aside0.mk hy154
 clear hy154
 simp only [Option.some.injEq, Prod.mk.injEq] at H
 obtain ⟨rfl, rfl⟩ := H
 try go_wp2
 have n0_ := Aside0.mk (Rc HO_8.out)
 have n1_ := Aside0.mk (Kd.N_drew HO_9.out)
 have n2_ := Aside0.mk (Rc HO_133002.out)
 have n3_ := Aside0.mk (blk_drew BK132.out)
 have n4_ := Aside0.mk (Bc HB.out)
 clear HO_8
 clear HO_9
 clear HO_133002
 clear BK132
 clear HB
 have HO_8 := n0_
 have HO_9 := n1_
 have HO_133002 := n2_
 have BK132 := n3_
 have HB := n4_
 clear n0_ n1_ n2_ n3_ n4_
 obtain ⟨Ao60, co60, eo60⟩ := Kd.N_slice HO_9.out
 (first | subst eo60 | (injection eo60 with f1_ f2_ f3_; have f4_ := f1_.symm; have f5_ := f3_.symm; clear f1_ f2_ f3_; subst f4_; subst f5_))
 have p134 : 0 ≤ (x12_4 : Int) := Od (by first | (with_reducible assumption) | assumption)
 have q134 : x12_4 < (x9_3.length : Int) := Od (by first | (with_reducible assumption) | assumption)
 obtain ⟨ad134, A134_2, c134_2, e134, hx134_0, hx134_1, hx134_2, hl134_2, hi134_2⟩ := at_T97 (Kd.N_reads' HO_9.out).2.2 x12_4 p134 q134
 cases e134
 obtain ⟨ce134, hce134, hMe134, hcc134⟩ := Kd.N_get HO_9.out z97 x12_4 p134 (by first | exact q134 | exact Od (by first | (with_reducible assumption) | assumption) | (have e_ := (Kd.N_reads' HO_9.out).1; omega))
 obtain ⟨ua134_2, uc134_2, rfl, ul134_2, ge134_2⟩ := k97_openF hMe134
 have hv134_2 := hcc134 2 _ rfl
 rw [add_field _ _ 2 (by omega)] at hv134_2
 replace hv134_2 := Option.some.inj (hv134_2.symm.trans hx134_2)
 injection hv134_2 with hva_ hvn_ hvc_
 rw [hva_] at ge134_2
 rw [hvc_] at ul134_2
 have HL134_2 := Aside0.mk (show Kd.V (Kd.int .i64) 3 _ w.heap.size _ _ ((rd_T97 x9_3 x12_4).f2) from Kd.V_mk ul134_2 ge134_2)
 clear hva_ hvn_ hvc_ ge134_2 ul134_2
 clear hcc134 hce134
 have HR134_2 := Aside0.mk hi134_2
 have HC134_2 := Aside0.mk hl134_2
 clear hi134_2 hl134_2
 replace p134 := eq_true p134
 replace q134 := eq_true q134
 refine start_ (n := 14) (S := fun w' => w'.cell? ⟨gb132, 0, none⟩ = some (.int .i64 (rd l1 x10_3)) ∧ w'.cell? ⟨gb132, 1, none⟩ = some (.bool true) ∧ w'.cell? ⟨gb132, 2, none⟩ = some (.slice (some ⟨go28, 0, none⟩) y133.length co35) ∧ w'.cell? (ad134.add ((x12_4).toNat * 3)) = some (.int .i64 ((rd_T97 x9_3 x12_4).f0)) ∧ w'.cell? ⟨(ad134.add ((x12_4).toNat * 3)).block, (ad134.add ((x12_4).toNat * 3)).off + 1, none⟩ = some (.bool ((rd_T97 x9_3 x12_4).f1)) ∧ w'.cell? ⟨(ad134.add ((x12_4).toNat * 3)).block, (ad134.add ((x12_4).toNat * 3)).off + 2, none⟩ = some (.slice A134_2 ((rd_T97 x9_3 x12_4).f2).length c134_2)) (ds := []) #[false, false, false, false, false, false, false, false, false, false, false, false, false, false] (by kernel_rfl) rfl rfl ⟨(blk_cell BK132.out 0).trans rfl, (blk_cell BK132.out 1).trans rfl, (blk_cell BK132.out 2).trans rfl, hx134_0, hx134_1, hx134_2⟩ (fun hHeld => ?_); refine with_tabW vitrineref02_Limit.tab22 vitrineref02_Limit.bits22 (fun HT_ HW_ => ?_)
 generalize wr.drew = w59 at HO_8 HO_9 HO_133002 BK132 HB HL134_2 HR134_2 hx134_0 hx134_1 hx134_2 hHeld ⊢
 refine pure_ (i := 0) (N := some 88) (v := ?_) (a' := ?_) #[true, false, false, false, false, false, false, false, false, false, false, false, false, false] rfl rfl (any_of HT_.out (by kernel_rfl)) (fun _ _ _ h => h) (Or.inl ⟨by rfl, ?_⟩) ?_ ?_
 rotate_left
 {
 intro w'
 go_simp
 with_reducible rfl}
 rotate_left
 {
 simp only [Act.put, Q3, i64_w, i32_w]
 rfl}
 refine pure_ (i := 1) (N := some 89) (v := ?_) (a' := ?_) #[true, true, false, false, false, false, false, false, false, false, false, false, false, false] rfl rfl (any_of HT_.out (by kernel_rfl)) (fun _ _ _ h => h) (Or.inl ⟨by rfl, ?_⟩) ?_ ?_
 rotate_left
 {
 intro w'
 go_simp
 with_reducible rfl}
 rotate_left
 {
 simp only [Act.put, Q3, i64_w, i32_w]
 rfl}
 refine pure_ (i := 2) (N := some 90) (v := ?_) (a' := ?_) #[true, true, true, false, false, false, false, false, false, false, false, false, false, false] rfl rfl (any_of HT_.out (by kernel_rfl)) (fun _ _ _ h => h) (Or.inl ⟨by rfl, ?_⟩) ?_ ?_
 rotate_left
 {
 intro w'
 go_simp
 with_reducible rfl}
 rotate_left
 {
 simp only [Act.put, Q3, i64_w, i32_w]
 rfl}
 refine pure_ (i := 3) (N := some 91) (v := ?_) (a' := ?_) #[true, true, true, true, false, false, false, false, false, false, false, false, false, false] rfl rfl (any_of HT_.out (by kernel_rfl)) (fun _ _ _ h => h) (Or.inl ⟨by rfl, ?_⟩) ?_ ?_
 rotate_left
 {
 intro w'
 go_simp
 with_reducible rfl}
 rotate_left
 {
 simp only [Act.put, Q3, i64_w, i32_w]
 rfl}
 refine pure_ (i := 4) (N := some 92) (v := ?_) (a' := ?_) #[true, true, true, true, true, false, false, false, false, false, false, false, false, false] rfl rfl (any_of HT_.out (by kernel_rfl)) (fun _ _ _ h => h) (Or.inl ⟨by rfl, ?_⟩) ?_ ?_
 rotate_left
 {
 intro w'
 go_simp
 with_reducible rfl}
 rotate_left
 {
 simp only [Act.put, Q3, i64_w, i32_w]
 rfl}
 refine pure_ (i := 5) (N := some 93) (v := ?_) (a' := ?_) #[true, true, true, true, true, true, false, false, false, false, false, false, false, false] rfl rfl (any_of HT_.out (by kernel_rfl)) (fun _ _ _ h => h) (Or.inl ⟨by rfl, ?_⟩) ?_ ?_
 rotate_left
 {
 intro w'
 go_simp
 with_reducible rfl}
 rotate_left
 {
 simp only [Act.put, Q3, i64_w, i32_w]
 rfl}
 refine pure_ (i := 6) (N := some 94) (v := ?_) (a' := ?_) #[true, true, true, true, true, true, true, false, false, false, false, false, false, false] rfl rfl (any_of HT_.out (by kernel_rfl)) (fun _ _ _ h => h) (Or.inl ⟨by rfl, ?_⟩) ?_ ?_
 rotate_left
 {
 intro w'
 go_simp
 with_reducible rfl}
 rotate_left
 {
 simp only [Act.put, Q3, i64_w, i32_w]
 rfl}
 refine pure_ (i := 7) (N := some 95) (v := ?_) (a' := ?_) #[true, true, true, true, true, true, true, true, false, false, false, false, false, false] rfl rfl (any_of HT_.out (by kernel_rfl)) (fun _ _ _ h => h) (Or.inl ⟨by rfl, ?_⟩) ?_ ?_
 rotate_left
 {
 intro w'
 go_simp
 with_reducible rfl}
 rotate_left
 {
 simp only [Act.put, Q3, i64_w, i32_w]
 rfl}
 refine pure_ (i := 8) (N := some 96) (v := ?_) (a' := ?_) #[true, true, true, true, true, true, true, true, true, false, false, false, false, false] rfl rfl (any_of HT_.out (by kernel_rfl)) (fun _ _ _ h => h) (Or.inl ⟨by rfl, ?_⟩) ?_ ?_
 rotate_left
 {
 intro w'
 go_simp
 with_reducible rfl}
 rotate_left
 {
 simp only [Act.put, Q3, i64_w, i32_w]
 rfl}
 refine pure_ (i := 10) (N := some 98) (v := ?_) (a' := ?_) #[true, true, true, true, true, true, true, true, true, false, true, false, false, false] rfl rfl (any_of HT_.out (by kernel_rfl)) (fun _ _ _ h => h) (Or.inl ⟨by rfl, ?_⟩) ?_ ?_
 rotate_left
 {
 intro w'
 go_simp
 with_reducible rfl}
 rotate_left
 {
 simp only [Act.put, Q3, i64_w, i32_w]
 rfl}
 refine take_ (i := 9) (N := some 97) (v := ?_) (a' := ?_) #[true, true, true, true, true, true, true, true, true, true, true, false, false, false] rfl rfl (take_ofW HT_.out HW_.out (by kernel_rfl)) (fun _ _ _ h => h) (Or.inl ⟨by rfl, ?_⟩) hHeld ?_ ?_
 rotate_left
 {
 rintro w' ⟨s0, s1, s2, s3, s4, s5⟩
 go_simp
 with_reducible rfl}
 rotate_left
 {
 simp only [Act.put, Q3, i64_w, i32_w]
 rfl}
 refine take_ (i := 11) (N := some 99) (v := ?_) (a' := ?_) #[true, true, true, true, true, true, true, true, true, true, true, true, false, false] rfl rfl (take_ofW HT_.out HW_.out (by kernel_rfl)) (fun _ _ _ h => h) (Or.inl ⟨by rfl, ?_⟩) hHeld ?_ ?_
 rotate_left
 {
 rintro w' ⟨s0, s1, s2, s3, s4, s5⟩
 go_simp
 with_reducible rfl}
 rotate_left
 {
 simp only [Act.put, Q3, i64_w, i32_w]
 rfl}
 refine pure_ (i := 12) (N := some 100) (v := ?_) (a' := ?_) #[true, true, true, true, true, true, true, true, true, true, true, true, true, false] rfl rfl (any_of HT_.out (by kernel_rfl)) (fun _ _ _ h => h) (Or.inl ⟨by rfl, ?_⟩) ?_ ?_
 rotate_left
 {
 intro w'
 go_simp
 with_reducible rfl}
 rotate_left
 {
 simp only [Act.put, Q3, i64_w, i32_w]
 rfl}
 refine pure_ (i := 13) (N := some 101) (v := ?_) (a' := ?_) #[true, true, true, true, true, true, true, true, true, true, true, true, true, true] rfl rfl (any_of HT_.out (by kernel_rfl)) (fun _ _ _ h => h) (Or.inl ⟨by rfl, ?_⟩) ?_ ?_
 rotate_left
 {
 intro w'
 go_simp
 with_reducible rfl}
 rotate_left
 {
 simp only [Act.put, Q3, i64_w, i32_w]
 rfl}
 refine done_ (done_of HT_.out (by kernel_rfl)) ?_
 have q61 : (x12_4 : Int) ≤ ((x9_3.length : Int) : Int) := Od (by first | (with_reducible assumption) | assumption)
 obtain ⟨i061, hi061, _, hsz61, _⟩ := info_parts info97
 have hroom61 : x9_3.length ≤ co60 := (Kd.N_reads' HO_9.out).2.1
 have hC61 : Kd.F k97 _ _ (some ad134) x9_3.length x9_3 := (Kd.V_at (base := w.heap.size) (Kd.N_V HO_9.out)).2.2
 have hcut61 := cut_to (P := Try.prog) 95 97 .i64 Try.underlying95 hi061 (some ad134) x9_3.length co60 x12_4 (Od (by first | (with_reducible assumption) | assumption)) q61 hroom61
 have hr61 := Kd.F_take (m := (x12_4 : Int).toNat) hC61 (by omega)
 have hy61 : y135.length = (x12_4 : Int).toNat := (by rw [Ny135.out, List.length_take]; omega)
 rw [← Ny135.out] at hr61
 rw [← hy61] at hcut61
 have HO139 := Aside0.mk (show Kd.V k97 97 _ w.heap.size _ (.slice (some ad134) y135.length co60) y135 from Kd.V_mk (by omega) hr61)
 have HC139 := Aside0.mk (show y135.length ≤ co60 from by omega)
 clear hr61 hC61 hroom61 hi061 hsz61
 have KY61 := Aside0.mk hy61
 clear hy61
 replace q61 := eq_true q61
 try go_wp2_with (first | ((with_reducible refine gate_builtin (b := .append) (xs := #[.tmp 104, .tmp 107]) rfl ?_); at_builtin; refine Kd.N_append_rows k97 (w0 := w) w.heap.size rfl (.tmp 104) (.tmp 107) 95 97 (.agg #[(.int .i64 0), (.bool false), (.slice none 0 0)]) 40 rfl Try.underlying95 info97 rfl (by decide) (by omega) (.slice none 0 0) ([] : List (S97)) y135 _ _ _ (fun k_ => some k_ ≠ (v125 : Value).ownBlock ∧ some k_ ≠ (.slice (some ⟨go28, 0, none⟩) y133.length co35 : Value).ownBlock ∧ k_ ≠ gb132) (fun k_ => ((fun k_ => some k_ ≠ (v125 : Value).ownBlock ∧ some k_ ≠ (.slice (some ⟨go28, 0, none⟩) y133.length co35 : Value).ownBlock ∧ k_ ≠ gb132)) k_ ∧ some k_ ≠ (.slice none 0 0 : Value).ownBlock) rfl rfl ?aO ?aR (fun _ hk => hk) ?aF ?aB ?aS ?aL ?_; (case aR => exact (by skip; exact Kd.V_F (Kd.V_mono (ok' := (fun k_ => ((fun k_ => some k_ ≠ (v125 : Value).ownBlock ∧ some k_ ≠ (.slice (some ⟨go28, 0, none⟩) y133.length co35 : Value).ownBlock ∧ k_ ≠ gb132)) k_ ∧ some k_ ≠ (.slice none 0 0 : Value).ownBlock)) (HO139.out) (fun k_ hk => ⟨⟨hk.1, ⟨hk.2.1, hk.2.2⟩⟩, (by simp [Value.ownBlock])⟩)))); (case aB => exact (by repeat (first | (with_reducible first | exact HB.out | apply Ba | apply Bb | apply Bc | refine below_set ?_ GE132.out) | exact HB.out))); (case aF => exact (fun k_ hk => ⟨Kd.fresh' (Kd.R_lt (by (with_reducible repeat (first | apply Ra | apply Rb | apply Rc)); exact HO_8.out)) k_ hk, Kd.fresh' (Kd.R_lt (by (with_reducible repeat (first | apply Ra | apply Rb | apply Rc)); exact HO_133002.out)) k_ hk, Kd.freshB (g := gb132) (o := .cells #[.int .i64 (rd l1 x10_3), .bool true, .slice (some ⟨go28, 0, none⟩) y133.length co35] 97 (0, 0)) (by (with_reducible repeat (first | refine blk_drewN ?_ _ | refine blk_drew ?_ | refine blk_alloc ?_ _)); exact BK132.out) k_ hk⟩)); (case aO => exact ((Kd.N_nil _ _ _ _ (fun k_ => some k_ ≠ (v125 : Value).ownBlock ∧ some k_ ≠ (.slice (some ⟨go28, 0, none⟩) y133.length co35 : Value).ownBlock ∧ k_ ≠ gb132)))); (case aS => exact (below_size (by repeat (first | (with_reducible first | exact HB.out | apply Ba | apply Bb | apply Bc | refine below_set ?_ GE132.out) | exact HB.out)))); (case aL => have := LMc50.out; omega); intro v141 w62 ho hb hg hat; rw [← Ny140.out] at ho; have n0_ := Aside0.mk (Kd.R_grown (by (with_reducible repeat (first | apply Ra | apply Rb | apply Rc)); exact HO_8.out) hg (fun _ _ => by simp [Value.ownBlock])); have n1_ := Aside0.mk (Kd.N_afterv (Kd.N_apart_nil (by (with_reducible repeat (first | apply Kd.N_alloc | apply Kd.N_drewN | apply Kd.N_drew)); exact HO_9.out)) hg hat); have n2_ := Aside0.mk (Kd.R_grown (by (with_reducible repeat (first | apply Ra | apply Rb | apply Rc)); exact HO_133002.out) hg (fun _ _ => by simp [Value.ownBlock])); have n3_ := Aside0.mk (blk_grown (g := gb132) (o := .cells #[.int .i64 (rd l1 x10_3), .bool true, .slice (some ⟨go28, 0, none⟩) y133.length co35] 97 (0, 0)) (by (with_reducible repeat (first | refine blk_drewN ?_ _ | refine blk_drew ?_ | refine blk_alloc ?_ _)); exact BK132.out) hg (by simp [Value.ownBlock])); have n4_ := Aside0.mk (Kd.V_afterv (Kd.V_apart_nil (by (with_reducible repeat (first | apply Va | apply Vb | apply Vc)); exact HL134_2.out)) hg hat); have n5_ := Aside0.mk (Kd.V_afterv (Kd.V_apart_nil (by (with_reducible repeat (first | apply Va | apply Vb | apply Vc)); exact HO139.out)) hg hat); have n6_ := Aside0.mk (hb); have n7_ := Aside0.mk (ho); clear HO_8 HO_9 HO_133002 BK132 HL134_2 HO139 HB; have HO_8 := n0_; have HO_9 := n1_; have HO_133002 := n2_; have BK132 := n3_; have HL134_2 := n4_; have HO139 := n5_; have HB := n6_; have HO142 := n7_; clear n0_ n1_ n2_ n3_ n4_ n5_ n6_ n7_; clear ho hb hg hat; have hcz63_0 : w62.cell? ⟨gb132, 0, none⟩ = some (.int .i64 (rd l1 x10_3)) := (blk_cell BK132.out 0).trans rfl; have hcz63_1 : w62.cell? ⟨gb132, 1, none⟩ = some (.bool true) := (blk_cell BK132.out 1).trans rfl; have hcz63_2 : w62.cell? ⟨gb132, 2, none⟩ = some (.slice (some ⟨go28, 0, none⟩) y133.length co35) := (blk_cell BK132.out 2).trans rfl; have hfz63_0 := blk_frozen BK132.out 0; have hfz63_1 := blk_frozen BK132.out 1; have hfz63_2 := blk_frozen BK132.out 2) | ((with_reducible refine gate_builtin (b := .append) (xs := #[.tmp 109, .tmp 111]) rfl ?_); at_builtin; refine Kd.N_append k97 (w0 := w) w.heap.size rfl (.tmp 109) (.tmp 111) 95 97 (.agg #[(.int .i64 0), (.bool false), (.slice none 0 0)]) 40 rfl Try.underlying95 info97 rfl (by decide) (by omega) v141 y140 (⟨(rd l1 x10_3), true, y133⟩ : S97) [.int .i64 (rd l1 x10_3), .bool true, .slice (some ⟨go28, 0, none⟩) y133.length co35] (fun k_ => some k_ ≠ (v125 : Value).ownBlock ∧ k_ ≠ gb132) (fun k_ => ((fun k_ => some k_ ≠ (v125 : Value).ownBlock ∧ k_ ≠ gb132)) k_ ∧ some k_ ≠ (v141 : Value).ownBlock) rfl rfl ?aP (fun _ hk => hk) ?aF ?aO ?aB ?aS ?aL ?_; (case aP => exact (k97_mkF _ _ (⟨(rd l1 x10_3), true, y133⟩ : S97) (Kd.R_reads' (Kd.R_mono (ok' := (fun k_ => ((fun k_ => some k_ ≠ (v125 : Value).ownBlock ∧ k_ ≠ gb132)) k_ ∧ some k_ ≠ (v141 : Value).ownBlock)) (Kd.R_types (Kd.R_apart' (HO_133002.out) (Kd.N_typed HO142.out) (by decide)) BK132.out (by decide)) (fun k_ hk => ⟨⟨hk.1.1, hk.2⟩, hk.1.2⟩))).2.1 (Kd.R_F (Kd.R_mono (ok' := (fun k_ => ((fun k_ => some k_ ≠ (v125 : Value).ownBlock ∧ k_ ≠ gb132)) k_ ∧ some k_ ≠ (v141 : Value).ownBlock)) (Kd.R_types (Kd.R_apart' (HO_133002.out) (Kd.N_typed HO142.out) (by decide)) BK132.out (by decide)) (fun k_ hk => ⟨⟨hk.1.1, hk.2⟩, hk.1.2⟩))))); (case aB => exact (by repeat (first | (with_reducible first | exact HB.out | apply Ba | apply Bb | apply Bc | refine below_set ?_ GE132.out) | exact HB.out))); (case aF => exact (fun k_ hk => ⟨Kd.fresh' (Kd.R_lt (by (with_reducible repeat (first | apply Ra | apply Rb | apply Rc)); exact HO_8.out)) k_ hk, Kd.freshB (g := gb132) (o := .cells #[.int .i64 (rd l1 x10_3), .bool true, .slice (some ⟨go28, 0, none⟩) y133.length co35] 97 (0, 0)) (by (with_reducible repeat (first | refine blk_drewN ?_ _ | refine blk_drew ?_ | refine blk_alloc ?_ _)); exact BK132.out) k_ hk⟩)); (case aO => exact (by (with_reducible repeat (first | apply Kd.N_alloc | apply Kd.N_drewN | apply Kd.N_drew)); exact Kd.N_mono HO142.out (fun _ hk => ⟨hk.1, hk.2.2⟩))); (case aS => exact (below_size (by repeat (first | (with_reducible first | exact HB.out | apply Ba | apply Bb | apply Bc | refine below_set ?_ GE132.out) | exact HB.out)))); (case aL => have := LMc51.out; omega); intro v144 w64 ho hb hg hat; rw [← Ny143.out] at ho; have n0_ := Aside0.mk (Kd.R_over' (by (with_reducible repeat (first | apply Ra | apply Rb | apply Rc)); exact HO_8.out) (Kd.N_typed (by (with_reducible repeat (first | apply Kd.N_alloc | apply Kd.N_drewN | apply Kd.N_drew)); exact HO142.out)) (by decide) hg); have n1_ := Aside0.mk (Kd.N_afterv (ok := (fun k_ => some k_ ≠ (v125 : Value).ownBlock ∧ some k_ ≠ (.slice (some ⟨go28, 0, none⟩) y133.length co35 : Value).ownBlock ∧ k_ ≠ gb132)) (by (with_reducible repeat (first | apply Kd.N_alloc | apply Kd.N_drewN | apply Kd.N_drew)); exact HO_9.out) hg hat); have n2_ := Aside0.mk (blk_grown (g := gb132) (o := .cells #[.int .i64 (rd l1 x10_3), .bool true, .slice (some ⟨go28, 0, none⟩) y133.length co35] 97 (0, 0)) (by (with_reducible repeat (first | refine blk_drewN ?_ _ | refine blk_drew ?_ | refine blk_alloc ?_ _)); exact BK132.out) hg (Kd.N_away HO142.out (fun _ hk => hk.2.2))); have n3_ := Aside0.mk (Kd.V_afterv (ok := (fun k_ => some k_ ≠ (v125 : Value).ownBlock ∧ some k_ ≠ (.slice (some ad134) x9_3.length co60 : Value).ownBlock ∧ some k_ ≠ (.slice (some ⟨go28, 0, none⟩) y133.length co35 : Value).ownBlock ∧ k_ ≠ gb132)) (by (with_reducible repeat (first | apply Va | apply Vb | apply Vc)); exact Kd.V_mono HL134_2.out (fun _ hk => ⟨⟨hk.1.1.1, ⟨hk.1.2, ⟨hk.1.1.2.1, hk.1.1.2.2⟩⟩⟩, hk.2⟩)) hg hat); have n4_ := Aside0.mk (Kd.V_afterv (ok := (fun k_ => some k_ ≠ (v125 : Value).ownBlock ∧ some k_ ≠ (.slice (some ⟨go28, 0, none⟩) y133.length co35 : Value).ownBlock ∧ k_ ≠ gb132)) (by (with_reducible repeat (first | apply Va | apply Vb | apply Vc)); exact HO139.out) hg hat); have n5_ := Aside0.mk (hb); have n6_ := Aside0.mk (ho); clear HO_8 HO_9 BK132 HL134_2 HO139 HB HO142 HO_133002; have HO_8 := n0_; have HO_9 := n1_; have BK132 := n2_; have HL134_2 := n3_; have HO139 := n4_; have HB := n5_; have HO145 := n6_; clear n0_ n1_ n2_ n3_ n4_ n5_ n6_; clear ho hb hg hat; have q65 : (x12_4 : Int) ≤ ((x9_3.length : Int) : Int) := Od (by first | (with_reducible assumption) | assumption); obtain ⟨i065, hi065, _, hsz65, _⟩ := info_parts info97; have hroom65 : x9_3.length ≤ co60 := (Kd.N_reads' HO_9.out).2.1; have hC65 : Kd.F k97 _ _ (some ad134) x9_3.length x9_3 := (Kd.V_at (base := w.heap.size) (Kd.N_V HO_9.out)).2.2; have q065 : (0 : Int) ≤ (x12_4 : Int) := Od (by first | (with_reducible assumption) | assumption); have hcut65 := cut_from (P := Try.prog) 95 97 .i64 Try.underlying95 hi065 3 hsz65 (some ad134) x9_3.length co60 x12_4 q065 q65; have hr65 := Kd.F_cut (m := (x12_4 : Int).toNat) (c := co60) hC65 (by omega) hroom65; obtain ⟨A65, hA65⟩ : ∃ A1, A1 = (if co60 = (x12_4 : Int).toNat then (some ad134) else ((some ad134) : Option Addr).map (·.add ((x12_4 : Int).toNat * 3))) := ⟨_, rfl⟩; obtain ⟨c65, hc65⟩ : ∃ c1, c1 = co60 - (x12_4 : Int).toNat := ⟨_, rfl⟩; have hy65 : y146.length = x9_3.length - (x12_4 : Int).toNat := (by rw [Ny146.out, List.length_drop] <;> omega); rw [show (x9_3).drop (x12_4 : Int).toNat = y146 from Ny146.out.symm] at hr65; replace hr65 : Kd.F k97 _ _ A65 y146.length y146 := (by rw [hA65]; exact hr65); rw [← hy65, ← hA65, ← hc65] at hcut65; have HO150 := Aside0.mk (show Kd.V k97 97 _ w.heap.size _ (.slice A65 y146.length c65) y146 from Kd.V_mk (by rw [hy65, hc65]; exact Nat.sub_le_sub_right hroom65 _) hr65); have HC150 := Aside0.mk (show y146.length ≤ c65 from by rw [hy65, hc65]; exact Nat.sub_le_sub_right hroom65 _); clear hr65 hC65 hroom65 hi065 hsz65 hc65; have KY65 := Aside0.mk hy65; have KA65 := Aside0.mk hA65; clear hy65 hA65; replace q65 := eq_true q65) | ((with_reducible refine gate_builtin (b := .append) (xs := #[.tmp 113, .tmp 116]) rfl ?_); at_builtin; refine Kd.N_append_rows k97 (w0 := w) w.heap.size rfl (.tmp 113) (.tmp 116) 95 97 (.agg #[(.int .i64 0), (.bool false), (.slice none 0 0)]) 40 rfl Try.underlying95 info97 rfl (by decide) (by omega) v144 y143 y146 _ _ _ (fun k_ => some k_ ≠ (v125 : Value).ownBlock ∧ k_ ≠ gb132) (fun k_ => ((fun k_ => some k_ ≠ (v125 : Value).ownBlock ∧ k_ ≠ gb132)) k_ ∧ some k_ ≠ (v144 : Value).ownBlock) rfl rfl ?aO ?aR (fun _ hk => hk) ?aF ?aB ?aS ?aL ?_; (case aR => exact (by skip; exact Kd.V_F (Kd.V_mono (ok' := (fun k_ => ((fun k_ => some k_ ≠ (v125 : Value).ownBlock ∧ k_ ≠ gb132)) k_ ∧ some k_ ≠ (v144 : Value).ownBlock)) (HO150.out) (fun k_ hk => ⟨⟨hk.1.1, hk.1.2.2⟩, hk.2⟩)))); (case aB => exact (by repeat (first | (with_reducible first | exact HB.out | apply Ba | apply Bb | apply Bc | refine below_set ?_ GE132.out) | exact HB.out))); (case aF => exact (fun k_ hk => ⟨Kd.fresh' (Kd.R_lt (by (with_reducible repeat (first | apply Ra | apply Rb | apply Rc)); exact HO_8.out)) k_ hk, Kd.freshB (g := gb132) (o := .cells #[.int .i64 (rd l1 x10_3), .bool true, .slice (some ⟨go28, 0, none⟩) y133.length co35] 97 (0, 0)) (by (with_reducible repeat (first | refine blk_drewN ?_ _ | refine blk_drew ?_ | refine blk_alloc ?_ _)); exact BK132.out) k_ hk⟩)); (case aO => exact (by (with_reducible repeat (first | apply Kd.N_alloc | apply Kd.N_drewN | apply Kd.N_drew)); exact HO145.out)); (case aS => exact (below_size (by repeat (first | (with_reducible first | exact HB.out | apply Ba | apply Bb | apply Bc | refine below_set ?_ GE132.out) | exact HB.out)))); (case aL => have := LMc54.out; omega); intro v152 w66 ho hb hg hat; rw [← Ny151.out] at ho; have n0_ := Aside0.mk (Kd.R_over' (by (with_reducible repeat (first | apply Ra | apply Rb | apply Rc)); exact HO_8.out) (Kd.N_typed (by (with_reducible repeat (first | apply Kd.N_alloc | apply Kd.N_drewN | apply Kd.N_drew)); exact HO145.out)) (by decide) hg); have n1_ := Aside0.mk (Kd.N_afterv (ok := (fun k_ => some k_ ≠ (v125 : Value).ownBlock ∧ k_ ≠ gb132)) (by (with_reducible repeat (first | apply Kd.N_alloc | apply Kd.N_drewN | apply Kd.N_drew)); exact Kd.N_mono HO_9.out (fun _ hk => ⟨⟨hk.1.1, hk.1.2.2⟩, hk.2⟩)) hg hat); have n2_ := Aside0.mk (blk_grown (g := gb132) (o := .cells #[.int .i64 (rd l1 x10_3), .bool true, .slice (some ⟨go28, 0, none⟩) y133.length co35] 97 (0, 0)) (by (with_reducible repeat (first | refine blk_drewN ?_ _ | refine blk_drew ?_ | refine blk_alloc ?_ _)); exact BK132.out) hg (Kd.N_away HO145.out (fun _ hk => hk.2))); have n3_ := Aside0.mk (Kd.V_afterv (ok := (fun k_ => some k_ ≠ (v125 : Value).ownBlock ∧ some k_ ≠ (.slice (some ad134) x9_3.length co60 : Value).ownBlock ∧ k_ ≠ gb132)) (by (with_reducible repeat (first | apply Va | apply Vb | apply Vc)); exact Kd.V_mono HL134_2.out (fun _ hk => ⟨⟨hk.1.1, ⟨hk.1.2.1, hk.1.2.2.2⟩⟩, hk.2⟩)) hg hat); have n4_ := Aside0.mk (Kd.V_afterv (ok := (fun k_ => some k_ ≠ (v125 : Value).ownBlock ∧ k_ ≠ gb132)) (by (with_reducible repeat (first | apply Va | apply Vb | apply Vc)); exact Kd.V_mono HO139.out (fun _ hk => ⟨⟨hk.1.1, hk.1.2.2⟩, hk.2⟩)) hg hat); have n5_ := Aside0.mk (Kd.V_afterv (ok := (fun k_ => some k_ ≠ (v125 : Value).ownBlock ∧ k_ ≠ gb132)) (by (with_reducible repeat (first | apply Va | apply Vb | apply Vc)); exact Kd.V_mono HO150.out (fun _ hk => ⟨⟨hk.1.1, hk.1.2.2⟩, hk.2⟩)) hg hat); have n6_ := Aside0.mk (hb); have n7_ := Aside0.mk (ho); clear HO_8 HO_9 BK132 HL134_2 HO139 HO150 HB HO145; have HO_8 := n0_; have HO_9 := n1_; have BK132 := n2_; have HL134_2 := n3_; have HO139 := n4_; have HO150 := n5_; have HB := n6_; have HO153 := n7_; clear n0_ n1_ n2_ n3_ n4_ n5_ n6_ n7_; clear ho hb hg hat; have p58 : 0 ≤ (x10_3 : Int) := Od (by first | (with_reducible assumption) | assumption); have q58 : (x10_3 : Int) < ((x8_3.length : Int) : Int) := Od (by first | (with_reducible assumption) | assumption); obtain ⟨go58, co58, eo58, gb58, gl58, cl58, HG58⟩ := Kd.R_form HO_8.out (by omega); (first | cases eo58 | (injection eo58 with ea_ en_ ec_; (first | subst ea_ | (injection ea_ with ea_; subst ea_)); subst ec_; clear en_)); have GB58 := Aside0.mk gb58; have GG58 := Aside0.mk HG58; clear gb58 gl58 HG58; obtain ⟨hx58_0, hf58_0⟩ := Kd.R_celln 0 HO_8.out (x10_3 : Int) p58 q58; replace p58 := eq_true p58; replace q58 := eq_true q58; have n_ := Aside0.mk (Kd.R_mono (ok' := (fun _ => True)) HO_8.out (fun k_ hk => trivial)); clear HO_8; have HO_8 := n_; clear n_; obtain ⟨hy67_, hz67_⟩ := Kd.R_celln 0 HO_8.out (x10_3 : Int) (Od (by first | (with_reducible assumption) | assumption)) (Od (by first | (with_reducible assumption) | assumption)); have HP67 := Kd.R_putg HO_8.out (x10_3 : Int) 1) | ((with_reducible refine gate_store (t := 3) (p := 122) rfl ?_); refine store_event (t := 3) (p := 122) (v := ?vo_w68) (w1 := (w66.setCell ⟨go58, (x10_3 : Int).toNat, none⟩ (.int .i64 1))) ?hg ?ho ?hn ?hr ?_; (case ho => rfl); (case hg => rfl); (case hn => rfl); (case hr => first | (go_simp; done) | (go_simp; rfl)); intro w68 hw; have hg : w66.grownBy w68 (some go58) := (by rw [hw]; exact HP67.2); have hp_ : Kd.R (Kd.int .i64) 3 w68 w.heap.size (fun _ => True) (.slice (some ⟨go58, 0, none⟩) x8_3.length co58) y154 := (by rw [hw, Ny154.out]; exact HP67.1); clear HP67; have n0_ := Aside0.mk (hp_); have n1_ := Aside0.mk (Kd.N_afterv (v := (.slice (some ⟨go58, 0, none⟩) x8_3.length co58)) (v1 := (.slice (some ⟨go58, 0, none⟩) x8_3.length co58)) (ok := (fun k_ => some k_ ≠ (v152 : Value).ownBlock ∧ k_ ≠ gb132)) (by (with_reducible repeat (first | apply Kd.N_alloc | apply Kd.N_drewN | apply Kd.N_drew)); exact Kd.N_mono HO_9.out (fun _ hk => ⟨⟨hk.2, hk.1.2⟩, hk.1.1⟩)) hg (.inl rfl)); have n2_ := Aside0.mk (blk_grown (g := gb132) (o := .cells #[.int .i64 (rd l1 x10_3), .bool true, .slice (some ⟨go28, 0, none⟩) y133.length co35] 97 (0, 0)) (by (with_reducible repeat (first | refine blk_drewN ?_ _ | refine blk_drew ?_ | refine blk_alloc ?_ _)); exact BK132.out) hg (Kd.R_ne HO_8.out BK132.out (by decide))); have n3_ := Aside0.mk (Kd.V_afterv (v := (.slice (some ⟨go58, 0, none⟩) x8_3.length co58)) (v1 := (.slice (some ⟨go58, 0, none⟩) x8_3.length co58)) (ok := (fun k_ => some k_ ≠ (.slice (some ad134) x9_3.length co60 : Value).ownBlock ∧ some k_ ≠ (v152 : Value).ownBlock ∧ k_ ≠ gb132)) (by (with_reducible repeat (first | apply Va | apply Vb | apply Vc)); exact Kd.V_mono HL134_2.out (fun _ hk => ⟨⟨hk.1.2.1, ⟨hk.2, hk.1.2.2⟩⟩, hk.1.1⟩)) hg (.inl rfl)); have n4_ := Aside0.mk (Kd.V_afterv (v := (.slice (some ⟨go58, 0, none⟩) x8_3.length co58)) (v1 := (.slice (some ⟨go58, 0, none⟩) x8_3.length co58)) (ok := (fun k_ => some k_ ≠ (v152 : Value).ownBlock ∧ k_ ≠ gb132)) (by (with_reducible repeat (first | apply Va | apply Vb | apply Vc)); exact Kd.V_mono HO139.out (fun _ hk => ⟨⟨hk.2, hk.1.2⟩, hk.1.1⟩)) hg (.inl rfl)); have n5_ := Aside0.mk (Kd.V_afterv (v := (.slice (some ⟨go58, 0, none⟩) x8_3.length co58)) (v1 := (.slice (some ⟨go58, 0, none⟩) x8_3.length co58)) (ok := (fun k_ => some k_ ≠ (v152 : Value).ownBlock ∧ k_ ≠ gb132)) (by (with_reducible repeat (first | apply Va | apply Vb | apply Vc)); exact Kd.V_mono HO150.out (fun _ hk => ⟨⟨hk.2, hk.1.2⟩, hk.1.1⟩)) hg (.inl rfl)); have n6_ := Aside0.mk (Kd.N_afterv (v := (.slice (some ⟨go58, 0, none⟩) x8_3.length co58)) (v1 := (.slice (some ⟨go58, 0, none⟩) x8_3.length co58)) (ok := (fun k_ => k_ ≠ gb132)) (by (with_reducible repeat (first | apply Kd.N_alloc | apply Kd.N_drewN | apply Kd.N_drew)); exact Kd.N_mono HO153.out (fun _ hk => ⟨hk.2, hk.1⟩)) hg (.inl rfl)); have n7_ := Aside0.mk ((by rw [hw]; exact below_set (HB.out) GB58.out : Below w.heap.size w w68)); clear HO_8 HO_9 BK132 HL134_2 HO139 HO150 HO153 HB; have HO_8 := n0_; have HO_9 := n1_; have BK132 := n2_; have HL134_2 := n3_; have HO139 := n4_; have HO150 := n5_; have HO153 := n6_; have HB := n7_; clear n0_ n1_ n2_ n3_ n4_ n5_ n6_ n7_; clear hg hw hp_))
 go_ret2
 exact ⟨_, by first | rfl | (simp [errW_none, errW_some] <;> rfl) | (simp only [← hji16]; first | rfl | (simp [errW_none, errW_some] <;> rfl)) | (simp [*, errW_none, errW_some] <;> rfl), by (with_reducible repeat (first | apply Ra | apply Rb | apply Rc)); exact HO_8.out, by repeat (first | (with_reducible first | exact HB.out | apply Ba | apply Bb | apply Bc | refine below_set ?_ GE132.out) | exact HB.out)⟩}
 {
 rw [if_neg c57] at H
 exact absurd H (by simp)}}
 {
 rw [if_neg c56] at H
 exact absurd H (by simp)}}
 {
 rw [if_neg c55] at H
 have c55b0 : (x6_2 == 1) = false := beq_eq_false_iff_ne.mpr c55
 have c55b1 : (x6_2 != 1) = true := bne_iff_ne.mpr c55
 have H' := Aside0.mk H
 clear H
 try go_wp2
 have n0_ := Aside0.mk (Rc HO_8.out)
 have n1_ := Aside0.mk (Kd.N_drew HO_9.out)
 have n2_ := Aside0.mk (Rc HO_133002.out)
 have n3_ := Aside0.mk (blk_drew BK132.out)
 have n4_ := Aside0.mk (Bc HB.out)
 clear HO_8
 clear HO_9
 clear HO_133002
 clear BK132
 clear HB
 have HO_8 := n0_
 have HO_9 := n1_
 have HO_133002 := n2_
 have BK132 := n3_
 have HB := n4_
 clear n0_ n1_ n2_ n3_ n4_
 obtain ⟨Ao70, co70, eo70⟩ := Kd.N_slice HO_9.out
 (first | subst eo70 | (injection eo70 with f1_ f2_ f3_; have f4_ := f1_.symm; have f5_ := f3_.symm; clear f1_ f2_ f3_; subst f4_; subst f5_))
 have p134 : 0 ≤ (x12_4 : Int) := Od (by first | (with_reducible assumption) | assumption)
 have q134 : x12_4 < (x9_3.length : Int) := Od (by first | (with_reducible assumption) | assumption)
 obtain ⟨ad134, A134_2, c134_2, e134, hx134_0, hx134_1, hx134_2, hl134_2, hi134_2⟩ := at_T97 (Kd.N_reads' HO_9.out).2.2 x12_4 p134 q134
 cases e134
 obtain ⟨ce134, hce134, hMe134, hcc134⟩ := Kd.N_get HO_9.out z97 x12_4 p134 (by first | exact q134 | exact Od (by first | (with_reducible assumption) | assumption) | (have e_ := (Kd.N_reads' HO_9.out).1; omega))
 obtain ⟨ua134_2, uc134_2, rfl, ul134_2, ge134_2⟩ := k97_openF hMe134
 have hv134_2 := hcc134 2 _ rfl
 rw [add_field _ _ 2 (by omega)] at hv134_2
 replace hv134_2 := Option.some.inj (hv134_2.symm.trans hx134_2)
 injection hv134_2 with hva_ hvn_ hvc_
 rw [hva_] at ge134_2
 rw [hvc_] at ul134_2
 have HL134_2 := Aside0.mk (show Kd.V (Kd.int .i64) 3 _ w.heap.size _ _ ((rd_T97 x9_3 x12_4).f2) from Kd.V_mk ul134_2 ge134_2)
 clear hva_ hvn_ hvc_ ge134_2 ul134_2
 clear hcc134 hce134
 have HR134_2 := Aside0.mk hi134_2
 have HC134_2 := Aside0.mk hl134_2
 clear hi134_2 hl134_2
 replace p134 := eq_true p134
 replace q134 := eq_true q134
 refine start_ (n := 14) (S := fun w' => w'.cell? ⟨gb132, 0, none⟩ = some (.int .i64 (rd l1 x10_3)) ∧ w'.cell? ⟨gb132, 1, none⟩ = some (.bool true) ∧ w'.cell? ⟨gb132, 2, none⟩ = some (.slice (some ⟨go28, 0, none⟩) y133.length co35) ∧ w'.cell? (ad134.add ((x12_4).toNat * 3)) = some (.int .i64 ((rd_T97 x9_3 x12_4).f0)) ∧ w'.cell? ⟨(ad134.add ((x12_4).toNat * 3)).block, (ad134.add ((x12_4).toNat * 3)).off + 1, none⟩ = some (.bool ((rd_T97 x9_3 x12_4).f1)) ∧ w'.cell? ⟨(ad134.add ((x12_4).toNat * 3)).block, (ad134.add ((x12_4).toNat * 3)).off + 2, none⟩ = some (.slice A134_2 ((rd_T97 x9_3 x12_4).f2).length c134_2)) (ds := []) #[false, false, false, false, false, false, false, false, false, false, false, false, false, false] (by kernel_rfl) rfl rfl ⟨(blk_cell BK132.out 0).trans rfl, (blk_cell BK132.out 1).trans rfl, (blk_cell BK132.out 2).trans rfl, hx134_0, hx134_1, hx134_2⟩ (fun hHeld => ?_); refine with_tabW vitrineref02_Limit.tab22 vitrineref02_Limit.bits22 (fun HT_ HW_ => ?_)
 generalize wr.drew = w69 at HO_8 HO_9 HO_133002 BK132 HB HL134_2 HR134_2 hx134_0 hx134_1 hx134_2 hHeld ⊢
 refine pure_ (i := 0) (N := some 88) (v := ?_) (a' := ?_) #[true, false, false, false, false, false, false, false, false, false, false, false, false, false] rfl rfl (any_of HT_.out (by kernel_rfl)) (fun _ _ _ h => h) (Or.inl ⟨by rfl, ?_⟩) ?_ ?_
 rotate_left
 {
 intro w'
 go_simp
 with_reducible rfl}
 rotate_left
 {
 simp only [Act.put, Q3, i64_w, i32_w]
 rfl}
 refine pure_ (i := 1) (N := some 89) (v := ?_) (a' := ?_) #[true, true, false, false, false, false, false, false, false, false, false, false, false, false] rfl rfl (any_of HT_.out (by kernel_rfl)) (fun _ _ _ h => h) (Or.inl ⟨by rfl, ?_⟩) ?_ ?_
 rotate_left
 {
 intro w'
 go_simp
 with_reducible rfl}
 rotate_left
 {
 simp only [Act.put, Q3, i64_w, i32_w]
 rfl}
 refine pure_ (i := 2) (N := some 90) (v := ?_) (a' := ?_) #[true, true, true, false, false, false, false, false, false, false, false, false, false, false] rfl rfl (any_of HT_.out (by kernel_rfl)) (fun _ _ _ h => h) (Or.inl ⟨by rfl, ?_⟩) ?_ ?_
 rotate_left
 {
 intro w'
 go_simp
 with_reducible rfl}
 rotate_left
 {
 simp only [Act.put, Q3, i64_w, i32_w]
 rfl}
 refine pure_ (i := 3) (N := some 91) (v := ?_) (a' := ?_) #[true, true, true, true, false, false, false, false, false, false, false, false, false, false] rfl rfl (any_of HT_.out (by kernel_rfl)) (fun _ _ _ h => h) (Or.inl ⟨by rfl, ?_⟩) ?_ ?_
 rotate_left
 {
 intro w'
 go_simp
 with_reducible rfl}
 rotate_left
 {
 simp only [Act.put, Q3, i64_w, i32_w]
 rfl}
 refine pure_ (i := 4) (N := some 92) (v := ?_) (a' := ?_) #[true, true, true, true, true, false, false, false, false, false, false, false, false, false] rfl rfl (any_of HT_.out (by kernel_rfl)) (fun _ _ _ h => h) (Or.inl ⟨by rfl, ?_⟩) ?_ ?_
 rotate_left
 {
 intro w'
 go_simp
 with_reducible rfl}
 rotate_left
 {
 simp only [Act.put, Q3, i64_w, i32_w]
 rfl}
 refine pure_ (i := 5) (N := some 93) (v := ?_) (a' := ?_) #[true, true, true, true, true, true, false, false, false, false, false, false, false, false] rfl rfl (any_of HT_.out (by kernel_rfl)) (fun _ _ _ h => h) (Or.inl ⟨by rfl, ?_⟩) ?_ ?_
 rotate_left
 {
 intro w'
 go_simp
 with_reducible rfl}
 rotate_left
 {
 simp only [Act.put, Q3, i64_w, i32_w]
 rfl}
 refine pure_ (i := 6) (N := some 94) (v := ?_) (a' := ?_) #[true, true, true, true, true, true, true, false, false, false, false, false, false, false] rfl rfl (any_of HT_.out (by kernel_rfl)) (fun _ _ _ h => h) (Or.inl ⟨by rfl, ?_⟩) ?_ ?_
 rotate_left
 {
 intro w'
 go_simp
 with_reducible rfl}
 rotate_left
 {
 simp only [Act.put, Q3, i64_w, i32_w]
 rfl}
 refine pure_ (i := 7) (N := some 95) (v := ?_) (a' := ?_) #[true, true, true, true, true, true, true, true, false, false, false, false, false, false] rfl rfl (any_of HT_.out (by kernel_rfl)) (fun _ _ _ h => h) (Or.inl ⟨by rfl, ?_⟩) ?_ ?_
 rotate_left
 {
 intro w'
 go_simp
 with_reducible rfl}
 rotate_left
 {
 simp only [Act.put, Q3, i64_w, i32_w]
 rfl}
 refine pure_ (i := 8) (N := some 96) (v := ?_) (a' := ?_) #[true, true, true, true, true, true, true, true, true, false, false, false, false, false] rfl rfl (any_of HT_.out (by kernel_rfl)) (fun _ _ _ h => h) (Or.inl ⟨by rfl, ?_⟩) ?_ ?_
 rotate_left
 {
 intro w'
 go_simp
 with_reducible rfl}
 rotate_left
 {
 simp only [Act.put, Q3, i64_w, i32_w]
 rfl}
 refine pure_ (i := 10) (N := some 98) (v := ?_) (a' := ?_) #[true, true, true, true, true, true, true, true, true, false, true, false, false, false] rfl rfl (any_of HT_.out (by kernel_rfl)) (fun _ _ _ h => h) (Or.inl ⟨by rfl, ?_⟩) ?_ ?_
 rotate_left
 {
 intro w'
 go_simp
 with_reducible rfl}
 rotate_left
 {
 simp only [Act.put, Q3, i64_w, i32_w]
 rfl}
 refine take_ (i := 9) (N := some 97) (v := ?_) (a' := ?_) #[true, true, true, true, true, true, true, true, true, true, true, false, false, false] rfl rfl (take_ofW HT_.out HW_.out (by kernel_rfl)) (fun _ _ _ h => h) (Or.inl ⟨by rfl, ?_⟩) hHeld ?_ ?_
 rotate_left
 {
 rintro w' ⟨s0, s1, s2, s3, s4, s5⟩
 go_simp
 with_reducible rfl}
 rotate_left
 {
 simp only [Act.put, Q3, i64_w, i32_w]
 rfl}
 refine take_ (i := 11) (N := some 99) (v := ?_) (a' := ?_) #[true, true, true, true, true, true, true, true, true, true, true, true, false, false] rfl rfl (take_ofW HT_.out HW_.out (by kernel_rfl)) (fun _ _ _ h => h) (Or.inl ⟨by rfl, ?_⟩) hHeld ?_ ?_
 rotate_left
 {
 rintro w' ⟨s0, s1, s2, s3, s4, s5⟩
 go_simp
 with_reducible rfl}
 rotate_left
 {
 simp only [Act.put, Q3, i64_w, i32_w]
 rfl}
 refine pure_ (i := 12) (N := some 100) (v := ?_) (a' := ?_) #[true, true, true, true, true, true, true, true, true, true, true, true, true, false] rfl rfl (any_of HT_.out (by kernel_rfl)) (fun _ _ _ h => h) (Or.inl ⟨by rfl, ?_⟩) ?_ ?_
 rotate_left
 {
 intro w'
 go_simp
 with_reducible rfl}
 rotate_left
 {
 simp only [Act.put, Q3, i64_w, i32_w]
 rfl}
 refine pure_ (i := 13) (N := some 101) (v := ?_) (a' := ?_) #[true, true, true, true, true, true, true, true, true, true, true, true, true, true] rfl rfl (any_of HT_.out (by kernel_rfl)) (fun _ _ _ h => h) (Or.inl ⟨by rfl, ?_⟩) ?_ ?_
 rotate_left
 {
 intro w'
 go_simp
 with_reducible rfl}
 rotate_left
 {
 simp only [Act.put, Q3, i64_w, i32_w]
 rfl}
 refine done_ (done_of HT_.out (by kernel_rfl)) ?_
 have q71 : (x12_4 : Int) ≤ ((x9_3.length : Int) : Int) := Od (by first | (with_reducible assumption) | assumption)
 obtain ⟨i071, hi071, _, hsz71, _⟩ := info_parts info97
 have hroom71 : x9_3.length ≤ co70 := (Kd.N_reads' HO_9.out).2.1
 have hC71 : Kd.F k97 _ _ (some ad134) x9_3.length x9_3 := (Kd.V_at (base := w.heap.size) (Kd.N_V HO_9.out)).2.2
 have hcut71 := cut_to (P := Try.prog) 95 97 .i64 Try.underlying95 hi071 (some ad134) x9_3.length co70 x12_4 (Od (by first | (with_reducible assumption) | assumption)) q71 hroom71
 have hr71 := Kd.F_take (m := (x12_4 : Int).toNat) hC71 (by omega)
 have hy71 : y135.length = (x12_4 : Int).toNat := (by rw [Ny135.out, List.length_take]; omega)
 rw [← Ny135.out] at hr71
 rw [← hy71] at hcut71
 have HO139 := Aside0.mk (show Kd.V k97 97 _ w.heap.size _ (.slice (some ad134) y135.length co70) y135 from Kd.V_mk (by omega) hr71)
 have HC139 := Aside0.mk (show y135.length ≤ co70 from by omega)
 clear hr71 hC71 hroom71 hi071 hsz71
 have KY71 := Aside0.mk hy71
 clear hy71
 replace q71 := eq_true q71
 try go_wp2_with (first | ((with_reducible refine gate_builtin (b := .append) (xs := #[.tmp 104, .tmp 107]) rfl ?_); at_builtin; refine Kd.N_append_rows k97 (w0 := w) w.heap.size rfl (.tmp 104) (.tmp 107) 95 97 (.agg #[(.int .i64 0), (.bool false), (.slice none 0 0)]) 40 rfl Try.underlying95 info97 rfl (by decide) (by omega) (.slice none 0 0) ([] : List (S97)) y135 _ _ _ (fun k_ => some k_ ≠ (v125 : Value).ownBlock ∧ some k_ ≠ (.slice (some ⟨go28, 0, none⟩) y133.length co35 : Value).ownBlock ∧ k_ ≠ gb132) (fun k_ => ((fun k_ => some k_ ≠ (v125 : Value).ownBlock ∧ some k_ ≠ (.slice (some ⟨go28, 0, none⟩) y133.length co35 : Value).ownBlock ∧ k_ ≠ gb132)) k_ ∧ some k_ ≠ (.slice none 0 0 : Value).ownBlock) rfl rfl ?aO ?aR (fun _ hk => hk) ?aF ?aB ?aS ?aL ?_; (case aR => exact (by skip; exact Kd.V_F (Kd.V_mono (ok' := (fun k_ => ((fun k_ => some k_ ≠ (v125 : Value).ownBlock ∧ some k_ ≠ (.slice (some ⟨go28, 0, none⟩) y133.length co35 : Value).ownBlock ∧ k_ ≠ gb132)) k_ ∧ some k_ ≠ (.slice none 0 0 : Value).ownBlock)) (HO139.out) (fun k_ hk => ⟨⟨hk.1, ⟨hk.2.1, hk.2.2⟩⟩, (by simp [Value.ownBlock])⟩)))); (case aB => exact (by repeat (first | (with_reducible first | exact HB.out | apply Ba | apply Bb | apply Bc | refine below_set ?_ GE132.out) | exact HB.out))); (case aF => exact (fun k_ hk => ⟨Kd.fresh' (Kd.R_lt (by (with_reducible repeat (first | apply Ra | apply Rb | apply Rc)); exact HO_8.out)) k_ hk, Kd.fresh' (Kd.R_lt (by (with_reducible repeat (first | apply Ra | apply Rb | apply Rc)); exact HO_133002.out)) k_ hk, Kd.freshB (g := gb132) (o := .cells #[.int .i64 (rd l1 x10_3), .bool true, .slice (some ⟨go28, 0, none⟩) y133.length co35] 97 (0, 0)) (by (with_reducible repeat (first | refine blk_drewN ?_ _ | refine blk_drew ?_ | refine blk_alloc ?_ _)); exact BK132.out) k_ hk⟩)); (case aO => exact ((Kd.N_nil _ _ _ _ (fun k_ => some k_ ≠ (v125 : Value).ownBlock ∧ some k_ ≠ (.slice (some ⟨go28, 0, none⟩) y133.length co35 : Value).ownBlock ∧ k_ ≠ gb132)))); (case aS => exact (below_size (by repeat (first | (with_reducible first | exact HB.out | apply Ba | apply Bb | apply Bc | refine below_set ?_ GE132.out) | exact HB.out)))); (case aL => have := LMc50.out; omega); intro v141 w72 ho hb hg hat; rw [← Ny140.out] at ho; have n0_ := Aside0.mk (Kd.R_grown (by (with_reducible repeat (first | apply Ra | apply Rb | apply Rc)); exact HO_8.out) hg (fun _ _ => by simp [Value.ownBlock])); have n1_ := Aside0.mk (Kd.N_afterv (Kd.N_apart_nil (by (with_reducible repeat (first | apply Kd.N_alloc | apply Kd.N_drewN | apply Kd.N_drew)); exact HO_9.out)) hg hat); have n2_ := Aside0.mk (Kd.R_grown (by (with_reducible repeat (first | apply Ra | apply Rb | apply Rc)); exact HO_133002.out) hg (fun _ _ => by simp [Value.ownBlock])); have n3_ := Aside0.mk (blk_grown (g := gb132) (o := .cells #[.int .i64 (rd l1 x10_3), .bool true, .slice (some ⟨go28, 0, none⟩) y133.length co35] 97 (0, 0)) (by (with_reducible repeat (first | refine blk_drewN ?_ _ | refine blk_drew ?_ | refine blk_alloc ?_ _)); exact BK132.out) hg (by simp [Value.ownBlock])); have n4_ := Aside0.mk (Kd.V_afterv (Kd.V_apart_nil (by (with_reducible repeat (first | apply Va | apply Vb | apply Vc)); exact HL134_2.out)) hg hat); have n5_ := Aside0.mk (Kd.V_afterv (Kd.V_apart_nil (by (with_reducible repeat (first | apply Va | apply Vb | apply Vc)); exact HO139.out)) hg hat); have n6_ := Aside0.mk (hb); have n7_ := Aside0.mk (ho); clear HO_8 HO_9 HO_133002 BK132 HL134_2 HO139 HB; have HO_8 := n0_; have HO_9 := n1_; have HO_133002 := n2_; have BK132 := n3_; have HL134_2 := n4_; have HO139 := n5_; have HB := n6_; have HO142 := n7_; clear n0_ n1_ n2_ n3_ n4_ n5_ n6_ n7_; clear ho hb hg hat; have hcz73_0 : w72.cell? ⟨gb132, 0, none⟩ = some (.int .i64 (rd l1 x10_3)) := (blk_cell BK132.out 0).trans rfl; have hcz73_1 : w72.cell? ⟨gb132, 1, none⟩ = some (.bool true) := (blk_cell BK132.out 1).trans rfl; have hcz73_2 : w72.cell? ⟨gb132, 2, none⟩ = some (.slice (some ⟨go28, 0, none⟩) y133.length co35) := (blk_cell BK132.out 2).trans rfl; have hfz73_0 := blk_frozen BK132.out 0; have hfz73_1 := blk_frozen BK132.out 1; have hfz73_2 := blk_frozen BK132.out 2) | ((with_reducible refine gate_builtin (b := .append) (xs := #[.tmp 109, .tmp 111]) rfl ?_); at_builtin; refine Kd.N_append k97 (w0 := w) w.heap.size rfl (.tmp 109) (.tmp 111) 95 97 (.agg #[(.int .i64 0), (.bool false), (.slice none 0 0)]) 40 rfl Try.underlying95 info97 rfl (by decide) (by omega) v141 y140 (⟨(rd l1 x10_3), true, y133⟩ : S97) [.int .i64 (rd l1 x10_3), .bool true, .slice (some ⟨go28, 0, none⟩) y133.length co35] (fun k_ => some k_ ≠ (v125 : Value).ownBlock ∧ k_ ≠ gb132) (fun k_ => ((fun k_ => some k_ ≠ (v125 : Value).ownBlock ∧ k_ ≠ gb132)) k_ ∧ some k_ ≠ (v141 : Value).ownBlock) rfl rfl ?aP (fun _ hk => hk) ?aF ?aO ?aB ?aS ?aL ?_; (case aP => exact (k97_mkF _ _ (⟨(rd l1 x10_3), true, y133⟩ : S97) (Kd.R_reads' (Kd.R_mono (ok' := (fun k_ => ((fun k_ => some k_ ≠ (v125 : Value).ownBlock ∧ k_ ≠ gb132)) k_ ∧ some k_ ≠ (v141 : Value).ownBlock)) (Kd.R_types (Kd.R_apart' (HO_133002.out) (Kd.N_typed HO142.out) (by decide)) BK132.out (by decide)) (fun k_ hk => ⟨⟨hk.1.1, hk.2⟩, hk.1.2⟩))).2.1 (Kd.R_F (Kd.R_mono (ok' := (fun k_ => ((fun k_ => some k_ ≠ (v125 : Value).ownBlock ∧ k_ ≠ gb132)) k_ ∧ some k_ ≠ (v141 : Value).ownBlock)) (Kd.R_types (Kd.R_apart' (HO_133002.out) (Kd.N_typed HO142.out) (by decide)) BK132.out (by decide)) (fun k_ hk => ⟨⟨hk.1.1, hk.2⟩, hk.1.2⟩))))); (case aB => exact (by repeat (first | (with_reducible first | exact HB.out | apply Ba | apply Bb | apply Bc | refine below_set ?_ GE132.out) | exact HB.out))); (case aF => exact (fun k_ hk => ⟨Kd.fresh' (Kd.R_lt (by (with_reducible repeat (first | apply Ra | apply Rb | apply Rc)); exact HO_8.out)) k_ hk, Kd.freshB (g := gb132) (o := .cells #[.int .i64 (rd l1 x10_3), .bool true, .slice (some ⟨go28, 0, none⟩) y133.length co35] 97 (0, 0)) (by (with_reducible repeat (first | refine blk_drewN ?_ _ | refine blk_drew ?_ | refine blk_alloc ?_ _)); exact BK132.out) k_ hk⟩)); (case aO => exact (by (with_reducible repeat (first | apply Kd.N_alloc | apply Kd.N_drewN | apply Kd.N_drew)); exact Kd.N_mono HO142.out (fun _ hk => ⟨hk.1, hk.2.2⟩))); (case aS => exact (below_size (by repeat (first | (with_reducible first | exact HB.out | apply Ba | apply Bb | apply Bc | refine below_set ?_ GE132.out) | exact HB.out)))); (case aL => have := LMc51.out; omega); intro v144 w74 ho hb hg hat; rw [← Ny143.out] at ho; have n0_ := Aside0.mk (Kd.R_over' (by (with_reducible repeat (first | apply Ra | apply Rb | apply Rc)); exact HO_8.out) (Kd.N_typed (by (with_reducible repeat (first | apply Kd.N_alloc | apply Kd.N_drewN | apply Kd.N_drew)); exact HO142.out)) (by decide) hg); have n1_ := Aside0.mk (Kd.N_afterv (ok := (fun k_ => some k_ ≠ (v125 : Value).ownBlock ∧ some k_ ≠ (.slice (some ⟨go28, 0, none⟩) y133.length co35 : Value).ownBlock ∧ k_ ≠ gb132)) (by (with_reducible repeat (first | apply Kd.N_alloc | apply Kd.N_drewN | apply Kd.N_drew)); exact HO_9.out) hg hat); have n2_ := Aside0.mk (blk_grown (g := gb132) (o := .cells #[.int .i64 (rd l1 x10_3), .bool true, .slice (some ⟨go28, 0, none⟩) y133.length co35] 97 (0, 0)) (by (with_reducible repeat (first | refine blk_drewN ?_ _ | refine blk_drew ?_ | refine blk_alloc ?_ _)); exact BK132.out) hg (Kd.N_away HO142.out (fun _ hk => hk.2.2))); have n3_ := Aside0.mk (Kd.V_afterv (ok := (fun k_ => some k_ ≠ (v125 : Value).ownBlock ∧ some k_ ≠ (.slice (some ad134) x9_3.length co70 : Value).ownBlock ∧ some k_ ≠ (.slice (some ⟨go28, 0, none⟩) y133.length co35 : Value).ownBlock ∧ k_ ≠ gb132)) (by (with_reducible repeat (first | apply Va | apply Vb | apply Vc)); exact Kd.V_mono HL134_2.out (fun _ hk => ⟨⟨hk.1.1.1, ⟨hk.1.2, ⟨hk.1.1.2.1, hk.1.1.2.2⟩⟩⟩, hk.2⟩)) hg hat); have n4_ := Aside0.mk (Kd.V_afterv (ok := (fun k_ => some k_ ≠ (v125 : Value).ownBlock ∧ some k_ ≠ (.slice (some ⟨go28, 0, none⟩) y133.length co35 : Value).ownBlock ∧ k_ ≠ gb132)) (by (with_reducible repeat (first | apply Va | apply Vb | apply Vc)); exact HO139.out) hg hat); have n5_ := Aside0.mk (hb); have n6_ := Aside0.mk (ho); clear HO_8 HO_9 BK132 HL134_2 HO139 HB HO142 HO_133002; have HO_8 := n0_; have HO_9 := n1_; have BK132 := n2_; have HL134_2 := n3_; have HO139 := n4_; have HB := n5_; have HO145 := n6_; clear n0_ n1_ n2_ n3_ n4_ n5_ n6_; clear ho hb hg hat; have q75 : (x12_4 : Int) ≤ ((x9_3.length : Int) : Int) := Od (by first | (with_reducible assumption) | assumption); obtain ⟨i075, hi075, _, hsz75, _⟩ := info_parts info97; have hroom75 : x9_3.length ≤ co70 := (Kd.N_reads' HO_9.out).2.1; have hC75 : Kd.F k97 _ _ (some ad134) x9_3.length x9_3 := (Kd.V_at (base := w.heap.size) (Kd.N_V HO_9.out)).2.2; have q075 : (0 : Int) ≤ (x12_4 : Int) := Od (by first | (with_reducible assumption) | assumption); have hcut75 := cut_from (P := Try.prog) 95 97 .i64 Try.underlying95 hi075 3 hsz75 (some ad134) x9_3.length co70 x12_4 q075 q75; have hr75 := Kd.F_cut (m := (x12_4 : Int).toNat) (c := co70) hC75 (by omega) hroom75; obtain ⟨A75, hA75⟩ : ∃ A1, A1 = (if co70 = (x12_4 : Int).toNat then (some ad134) else ((some ad134) : Option Addr).map (·.add ((x12_4 : Int).toNat * 3))) := ⟨_, rfl⟩; obtain ⟨c75, hc75⟩ : ∃ c1, c1 = co70 - (x12_4 : Int).toNat := ⟨_, rfl⟩; have hy75 : y146.length = x9_3.length - (x12_4 : Int).toNat := (by rw [Ny146.out, List.length_drop] <;> omega); rw [show (x9_3).drop (x12_4 : Int).toNat = y146 from Ny146.out.symm] at hr75; replace hr75 : Kd.F k97 _ _ A75 y146.length y146 := (by rw [hA75]; exact hr75); rw [← hy75, ← hA75, ← hc75] at hcut75; have HO150 := Aside0.mk (show Kd.V k97 97 _ w.heap.size _ (.slice A75 y146.length c75) y146 from Kd.V_mk (by rw [hy75, hc75]; exact Nat.sub_le_sub_right hroom75 _) hr75); have HC150 := Aside0.mk (show y146.length ≤ c75 from by rw [hy75, hc75]; exact Nat.sub_le_sub_right hroom75 _); clear hr75 hC75 hroom75 hi075 hsz75 hc75; have KY75 := Aside0.mk hy75; have KA75 := Aside0.mk hA75; clear hy75 hA75; replace q75 := eq_true q75) | ((with_reducible refine gate_builtin (b := .append) (xs := #[.tmp 113, .tmp 116]) rfl ?_); at_builtin; refine Kd.N_append_rows k97 (w0 := w) w.heap.size rfl (.tmp 113) (.tmp 116) 95 97 (.agg #[(.int .i64 0), (.bool false), (.slice none 0 0)]) 40 rfl Try.underlying95 info97 rfl (by decide) (by omega) v144 y143 y146 _ _ _ (fun k_ => some k_ ≠ (v125 : Value).ownBlock ∧ k_ ≠ gb132) (fun k_ => ((fun k_ => some k_ ≠ (v125 : Value).ownBlock ∧ k_ ≠ gb132)) k_ ∧ some k_ ≠ (v144 : Value).ownBlock) rfl rfl ?aO ?aR (fun _ hk => hk) ?aF ?aB ?aS ?aL ?_; (case aR => exact (by skip; exact Kd.V_F (Kd.V_mono (ok' := (fun k_ => ((fun k_ => some k_ ≠ (v125 : Value).ownBlock ∧ k_ ≠ gb132)) k_ ∧ some k_ ≠ (v144 : Value).ownBlock)) (HO150.out) (fun k_ hk => ⟨⟨hk.1.1, hk.1.2.2⟩, hk.2⟩)))); (case aB => exact (by repeat (first | (with_reducible first | exact HB.out | apply Ba | apply Bb | apply Bc | refine below_set ?_ GE132.out) | exact HB.out))); (case aF => exact (fun k_ hk => ⟨Kd.fresh' (Kd.R_lt (by (with_reducible repeat (first | apply Ra | apply Rb | apply Rc)); exact HO_8.out)) k_ hk, Kd.freshB (g := gb132) (o := .cells #[.int .i64 (rd l1 x10_3), .bool true, .slice (some ⟨go28, 0, none⟩) y133.length co35] 97 (0, 0)) (by (with_reducible repeat (first | refine blk_drewN ?_ _ | refine blk_drew ?_ | refine blk_alloc ?_ _)); exact BK132.out) k_ hk⟩)); (case aO => exact (by (with_reducible repeat (first | apply Kd.N_alloc | apply Kd.N_drewN | apply Kd.N_drew)); exact HO145.out)); (case aS => exact (below_size (by repeat (first | (with_reducible first | exact HB.out | apply Ba | apply Bb | apply Bc | refine below_set ?_ GE132.out) | exact HB.out)))); (case aL => have := LMc54.out; omega); intro v152 w76 ho hb hg hat; rw [← Ny151.out] at ho; have n0_ := Aside0.mk (Kd.R_over' (by (with_reducible repeat (first | apply Ra | apply Rb | apply Rc)); exact HO_8.out) (Kd.N_typed (by (with_reducible repeat (first | apply Kd.N_alloc | apply Kd.N_drewN | apply Kd.N_drew)); exact HO145.out)) (by decide) hg); have n1_ := Aside0.mk (Kd.N_afterv (ok := (fun k_ => some k_ ≠ (v125 : Value).ownBlock ∧ k_ ≠ gb132)) (by (with_reducible repeat (first | apply Kd.N_alloc | apply Kd.N_drewN | apply Kd.N_drew)); exact Kd.N_mono HO_9.out (fun _ hk => ⟨⟨hk.1.1, hk.1.2.2⟩, hk.2⟩)) hg hat); have n2_ := Aside0.mk (blk_grown (g := gb132) (o := .cells #[.int .i64 (rd l1 x10_3), .bool true, .slice (some ⟨go28, 0, none⟩) y133.length co35] 97 (0, 0)) (by (with_reducible repeat (first | refine blk_drewN ?_ _ | refine blk_drew ?_ | refine blk_alloc ?_ _)); exact BK132.out) hg (Kd.N_away HO145.out (fun _ hk => hk.2))); have n3_ := Aside0.mk (Kd.V_afterv (ok := (fun k_ => some k_ ≠ (v125 : Value).ownBlock ∧ some k_ ≠ (.slice (some ad134) x9_3.length co70 : Value).ownBlock ∧ k_ ≠ gb132)) (by (with_reducible repeat (first | apply Va | apply Vb | apply Vc)); exact Kd.V_mono HL134_2.out (fun _ hk => ⟨⟨hk.1.1, ⟨hk.1.2.1, hk.1.2.2.2⟩⟩, hk.2⟩)) hg hat); have n4_ := Aside0.mk (Kd.V_afterv (ok := (fun k_ => some k_ ≠ (v125 : Value).ownBlock ∧ k_ ≠ gb132)) (by (with_reducible repeat (first | apply Va | apply Vb | apply Vc)); exact Kd.V_mono HO139.out (fun _ hk => ⟨⟨hk.1.1, hk.1.2.2⟩, hk.2⟩)) hg hat); have n5_ := Aside0.mk (Kd.V_afterv (ok := (fun k_ => some k_ ≠ (v125 : Value).ownBlock ∧ k_ ≠ gb132)) (by (with_reducible repeat (first | apply Va | apply Vb | apply Vc)); exact Kd.V_mono HO150.out (fun _ hk => ⟨⟨hk.1.1, hk.1.2.2⟩, hk.2⟩)) hg hat); have n6_ := Aside0.mk (hb); have n7_ := Aside0.mk (ho); clear HO_8 HO_9 BK132 HL134_2 HO139 HO150 HB HO145; have HO_8 := n0_; have HO_9 := n1_; have BK132 := n2_; have HL134_2 := n3_; have HO139 := n4_; have HO150 := n5_; have HB := n6_; have HO153 := n7_; clear n0_ n1_ n2_ n3_ n4_ n5_ n6_ n7_; clear ho hb hg hat))
 (try simp only [← hl133002_4])
 go_roundg k4
 case measure => have := HJ2.out; have := HK2.out; have := HK3.out; have := HK4.out; omega
 case rel => exact ⟨(x8_3), (y151), (wrap64 (x10_3 + 1)), (by first | rfl | (simp; done) | (simp [*]; done)), H', ⟨by have := HJ2.out; have := HK2.out; have := HK3.out; have := HK4.out; omega⟩, ⟨by (try simp only [hl133002_4]); (with_reducible repeat (first | apply Ra | apply Rb | apply Rc)); exact Kd.R_mono HO_8.out (fun _ hk => trivial)⟩, ⟨by (try simp only [hl133002_4]); (with_reducible repeat (first | apply Kd.N_alloc | apply Kd.N_drewN | apply Kd.N_drew)); exact Kd.N_mono HO153.out (fun _ hk => hk.1)⟩, ⟨by repeat (first | (with_reducible first | exact HB.out | apply Ba | apply Bb | apply Bc | refine below_set ?_ GE132.out) | exact HB.out)⟩⟩}}
 {
 rw [if_neg c54] at H
 exact absurd H (by simp)}}
 {
 rw [if_neg c51] at H
 exact absurd H (by simp)}}
 {
 rw [if_neg c50] at H
 exact absurd H (by simp)}}
 {
 rw [if_neg c49] at H
 exact absurd H (by simp)}}}
 {
 rw [if_neg c44] at H
 exact absurd H (by simp)}}
 {
 rw [if_neg c43] at H
 have c43b0 : decide (x12_4 < (x9_3.length : Int)) = false := decide_eq_false c43
 clear c43
 by_cases c77 : 0 ≤ x12_4
 {
 rw [if_pos c77] at H
 have c77b0 := eq_true c77
 have c77b1 : decide (0 ≤ x12_4) = true := decide_eq_true c77
 clear c77
 by_cases c78 : x12_4 ≤ (x9_3.length : Int)
 {
 rw [if_pos c78] at H
 have c78b0 := eq_true c78
 have c78b1 : decide (x12_4 ≤ (x9_3.length : Int)) = true := decide_eq_true c78
 clear c78
 obtain ⟨y155, hy155⟩ : ∃ y_ : List (S97), y_ = (x9_3.take (x12_4 : Int).toNat) := ⟨_, rfl⟩
 replace H : (if ([] : List (S97)).length + y155.length < 3518437208883 then ((some (([] : List (S97)) ++ y155 : List (S97))).bind fun y160 => (if y160.length < 3518437208883 then ((some (y160 ++ [(⟨(rd l1 x10_3), true, y133⟩ : S97)] : List (S97))).bind fun y163 => ((some (x9_3.drop (x12_4 : Int).toNat : List (S97))).bind fun y166 => (if y163.length + y166.length < 3518437208883 then (if x6_2 = 1 then (if 0 ≤ x10_3 then (if x10_3 < (x8_3.length : Int) then (some ((x8_3.set (x10_3 : Int).toNat 1), 0)) else (none)) else (none)) else (vitrineref02_Limit.l1 k4 a0 l1 x6_2 x8_3 (y163 ++ y166) (wrap64 (x10_3 + 1)))) else (none)))) else (none))) else (none)) = some (r1, r2) := by first | (rw [hy155]; with_reducible exact H) | (have H2_ := (Option.bind_some _ _).symm.trans H; rw [hy155]; with_reducible exact H2_) | (have H2_ := (Option.bind_some _ _).symm.trans H; with_reducible exact H2_) | with_reducible exact H | (rw [hy155]; exact H) | exact H
 have Ny155 := Aside0.mk hy155
 clear hy155
 by_cases c79 : ([] : List (S97)).length + y155.length < 3518437208883
 {
 rw [if_pos c79] at H
 have LMc79 := Aside0.mk c79
 clear c79
 obtain ⟨y160, hy160⟩ : ∃ y_ : List (S97), y_ = (([] : List (S97)) ++ y155) := ⟨_, rfl⟩
 replace H : (if y160.length < 3518437208883 then ((some (y160 ++ [(⟨(rd l1 x10_3), true, y133⟩ : S97)] : List (S97))).bind fun y163 => ((some (x9_3.drop (x12_4 : Int).toNat : List (S97))).bind fun y166 => (if y163.length + y166.length < 3518437208883 then (if x6_2 = 1 then (if 0 ≤ x10_3 then (if x10_3 < (x8_3.length : Int) then (some ((x8_3.set (x10_3 : Int).toNat 1), 0)) else (none)) else (none)) else (vitrineref02_Limit.l1 k4 a0 l1 x6_2 x8_3 (y163 ++ y166) (wrap64 (x10_3 + 1)))) else (none)))) else (none)) = some (r1, r2) := by first | (rw [hy160]; with_reducible exact H) | (have H2_ := (Option.bind_some _ _).symm.trans H; rw [hy160]; with_reducible exact H2_) | (have H2_ := (Option.bind_some _ _).symm.trans H; with_reducible exact H2_) | with_reducible exact H | (rw [hy160]; exact H) | exact H
 have Ny160 := Aside0.mk hy160
 clear hy160
 by_cases c80 : y160.length < 3518437208883
 {
 rw [if_pos c80] at H
 have LMc80 := Aside0.mk c80
 clear c80
 obtain ⟨y163, hy163⟩ : ∃ y_ : List (S97), y_ = (y160 ++ [(⟨(rd l1 x10_3), true, y133⟩ : S97)]) := ⟨_, rfl⟩
 replace H : ((some (x9_3.drop (x12_4 : Int).toNat : List (S97))).bind fun y166 => (if y163.length + y166.length < 3518437208883 then (if x6_2 = 1 then (if 0 ≤ x10_3 then (if x10_3 < (x8_3.length : Int) then (some ((x8_3.set (x10_3 : Int).toNat 1), 0)) else (none)) else (none)) else (vitrineref02_Limit.l1 k4 a0 l1 x6_2 x8_3 (y163 ++ y166) (wrap64 (x10_3 + 1)))) else (none))) = some (r1, r2) := by first | (rw [hy163]; with_reducible exact H) | (have H2_ := (Option.bind_some _ _).symm.trans H; rw [hy163]; with_reducible exact H2_) | (have H2_ := (Option.bind_some _ _).symm.trans H; with_reducible exact H2_) | with_reducible exact H | (rw [hy163]; exact H) | exact H
 have Ny163 := Aside0.mk hy163
 clear hy163
 have c81b0 := eq_true (Od (by first | (with_reducible assumption) | assumption) : 0 ≤ x12_4)
 have c82b0 := eq_true (Od (by first | (with_reducible assumption) | assumption) : x12_4 ≤ (x9_3.length : Int))
 obtain ⟨y166, hy166⟩ : ∃ y_ : List (S97), y_ = (x9_3.drop (x12_4 : Int).toNat) := ⟨_, rfl⟩
 replace H : (if y163.length + y166.length < 3518437208883 then (if x6_2 = 1 then (if 0 ≤ x10_3 then (if x10_3 < (x8_3.length : Int) then (some ((x8_3.set (x10_3 : Int).toNat 1), 0)) else (none)) else (none)) else (vitrineref02_Limit.l1 k4 a0 l1 x6_2 x8_3 (y163 ++ y166) (wrap64 (x10_3 + 1)))) else (none)) = some (r1, r2) := by first | (rw [hy166]; with_reducible exact H) | (have H2_ := (Option.bind_some _ _).symm.trans H; rw [hy166]; with_reducible exact H2_) | (have H2_ := (Option.bind_some _ _).symm.trans H; with_reducible exact H2_) | with_reducible exact H | (rw [hy166]; exact H) | exact H
 have Ny166 := Aside0.mk hy166
 clear hy166
 by_cases c83 : y163.length + y166.length < 3518437208883
 {
 rw [if_pos c83] at H
 have LMc83 := Aside0.mk c83
 clear c83
 obtain ⟨y171, hy171⟩ : ∃ y_ : List (S97), y_ = (y163 ++ y166) := ⟨_, rfl⟩
 replace H : (if x6_2 = 1 then (if 0 ≤ x10_3 then (if x10_3 < (x8_3.length : Int) then (some ((x8_3.set (x10_3 : Int).toNat 1), 0)) else (none)) else (none)) else (vitrineref02_Limit.l1 k4 a0 l1 x6_2 x8_3 y171 (wrap64 (x10_3 + 1)))) = some (r1, r2) := by first | (rw [hy171]; with_reducible exact H) | (have H2_ := (Option.bind_some _ _).symm.trans H; rw [hy171]; with_reducible exact H2_) | (have H2_ := (Option.bind_some _ _).symm.trans H; with_reducible exact H2_) | with_reducible exact H | (rw [hy171]; exact H) | exact H
 have Ny171 := Aside0.mk hy171
 clear hy171
 by_cases c84 : x6_2 = 1
 {
 rw [if_pos c84] at H
 have c84b0 : (x6_2 == 1) = true := beq_iff_eq.mpr c84
 have c84b1 : (x6_2 != 1) = false := bne_eq_false_iff_eq.mpr c84
 clear c84
 by_cases c85 : 0 ≤ x10_3
 {
 rw [if_pos c85] at H
 have c85b0 : decide (0 ≤ x10_3) = true := decide_eq_true c85
 clear c85
 by_cases c86 : x10_3 < (x8_3.length : Int)
 {
 rw [if_pos c86] at H
 have c86b0 : decide (x10_3 < (x8_3.length : Int)) = true := decide_eq_true c86
 clear c86
 obtain ⟨y174, hy174⟩ : ∃ y_ : List Int, y_ = (x8_3.set (x10_3 : Int).toNat 1) := ⟨_, rfl⟩
 replace H : (some (y174, 0)) = some (r1, r2) := by first | (rw [hy174]; with_reducible exact H) | (have H2_ := (Option.bind_some _ _).symm.trans H; rw [hy174]; with_reducible exact H2_) | (have H2_ := (Option.bind_some _ _).symm.trans H; with_reducible exact H2_) | with_reducible exact H | (rw [hy174]; exact H) | exact H
 have Ny174 := Aside0.mk hy174
 clear hy174
 simp only [Option.some.injEq, Prod.mk.injEq] at H
 obtain ⟨rfl, rfl⟩ := H
 try go_wp2
 have n0_ := Aside0.mk (Rc HO_8.out)
 have n1_ := Aside0.mk (Kd.N_drew HO_9.out)
 have n2_ := Aside0.mk (Rc HO_133002.out)
 have n3_ := Aside0.mk (blk_drew BK132.out)
 have n4_ := Aside0.mk (Bc HB.out)
 clear HO_8
 clear HO_9
 clear HO_133002
 clear BK132
 clear HB
 have HO_8 := n0_
 have HO_9 := n1_
 have HO_133002 := n2_
 have BK132 := n3_
 have HB := n4_
 clear n0_ n1_ n2_ n3_ n4_
 obtain ⟨Ao89, co89, eo89⟩ := Kd.N_slice HO_9.out
 (first | subst eo89 | (injection eo89 with f1_ f2_ f3_; have f4_ := f1_.symm; have f5_ := f3_.symm; clear f1_ f2_ f3_; subst f4_; subst f5_))
 refine start_ (n := 14) (S := fun w' => True) (ds := []) #[false, false, false, false, false, false, false, false, false, false, false, false, false, false] (by kernel_rfl) rfl rfl trivial (fun hHeld => ?_); refine with_tabW vitrineref02_Limit.tab22 vitrineref02_Limit.bits22 (fun HT_ HW_ => ?_)
 generalize wr.drew = w88 at HO_8 HO_9 HO_133002 BK132 HB hHeld ⊢
 refine pure_ (i := 0) (N := some 88) (v := ?_) (a' := ?_) #[true, false, false, false, false, false, false, false, false, false, false, false, false, false] rfl rfl (any_of HT_.out (by kernel_rfl)) (fun _ _ _ h => h) (Or.inl ⟨by rfl, ?_⟩) ?_ ?_
 rotate_left
 {
 intro w'
 go_simp
 with_reducible rfl}
 rotate_left
 {
 simp only [Act.put, Q3, i64_w, i32_w]
 rfl}
 refine pure_ (i := 1) (N := some 89) (v := ?_) (a' := ?_) #[true, true, false, false, false, false, false, false, false, false, false, false, false, false] rfl rfl (any_of HT_.out (by kernel_rfl)) (fun _ _ _ h => h) (Or.inl ⟨by rfl, ?_⟩) ?_ ?_
 rotate_left
 {
 intro w'
 go_simp
 with_reducible rfl}
 rotate_left
 {
 simp only [Act.put, Q3, i64_w, i32_w]
 rfl}
 refine pure_ (i := 2) (N := some 90) (v := ?_) (a' := ?_) #[true, true, true, false, false, false, false, false, false, false, false, false, false, false] rfl rfl (any_of HT_.out (by kernel_rfl)) (fun _ _ _ h => h) (Or.inl ⟨by rfl, ?_⟩) ?_ ?_
 rotate_left
 {
 intro w'
 go_simp
 with_reducible rfl}
 rotate_left
 {
 simp only [Act.put, Q3, i64_w, i32_w]
 rfl}
 refine pure_ (i := 3) (N := some 91) (v := ?_) (a' := ?_) #[true, true, true, true, false, false, false, false, false, false, false, false, false, false] rfl rfl (any_of HT_.out (by kernel_rfl)) (fun _ _ _ h => h) (Or.inl ⟨by rfl, ?_⟩) ?_ ?_
 rotate_left
 {
 intro w'
 go_simp
 with_reducible rfl}
 rotate_left
 {
 simp only [Act.put, Q3, i64_w, i32_w]
 rfl}
 refine pure_ (i := 4) (N := some 92) (v := ?_) (a' := ?_) #[true, true, true, true, true, false, false, false, false, false, false, false, false, false] rfl rfl (any_of HT_.out (by kernel_rfl)) (fun _ _ _ h => h) (Or.inl ⟨by rfl, ?_⟩) ?_ ?_
 rotate_left
 {
 intro w'
 go_simp
 with_reducible rfl}
 rotate_left
 {
 simp only [Act.put, Q3, i64_w, i32_w]
 rfl}
 refine pure_ (i := 5) (N := some 93) (v := undef) (a' := ?_) #[true, true, true, true, true, true, false, false, false, false, false, false, false, false] rfl rfl (any_of HT_.out (by kernel_rfl)) (fun _ _ _ h => h) (Or.inr ⟨by rfl, rfl⟩) ?_ ?_
 rotate_left
 {
 simp only [Act.put, Q3, i64_w, i32_w]
 rfl}
 refine pure_ (i := 6) (N := some 94) (v := undef) (a' := ?_) #[true, true, true, true, true, true, true, false, false, false, false, false, false, false] rfl rfl (any_of HT_.out (by kernel_rfl)) (fun _ _ _ h => h) (Or.inr ⟨by rfl, rfl⟩) ?_ ?_
 rotate_left
 {
 simp only [Act.put, Q3, i64_w, i32_w]
 rfl}
 refine pure_ (i := 7) (N := some 95) (v := undef) (a' := ?_) #[true, true, true, true, true, true, true, true, false, false, false, false, false, false] rfl rfl (any_of HT_.out (by kernel_rfl)) (fun _ _ _ h => h) (Or.inr ⟨by rfl, rfl⟩) ?_ ?_
 rotate_left
 {
 simp only [Act.put, Q3, i64_w, i32_w]
 rfl}
 refine pure_ (i := 8) (N := some 96) (v := undef) (a' := ?_) #[true, true, true, true, true, true, true, true, true, false, false, false, false, false] rfl rfl (any_of HT_.out (by kernel_rfl)) (fun _ _ _ h => h) (Or.inr ⟨by rfl, rfl⟩) ?_ ?_
 rotate_left
 {
 simp only [Act.put, Q3, i64_w, i32_w]
 rfl}
 refine pure_ (i := 9) (N := some 97) (v := undef) (a' := ?_) #[true, true, true, true, true, true, true, true, true, true, false, false, false, false] rfl rfl (any_of HT_.out (by kernel_rfl)) (fun _ _ _ h => h) (Or.inr ⟨by rfl, rfl⟩) ?_ ?_
 rotate_left
 {
 simp only [Act.put, Q3, i64_w, i32_w]
 rfl}
 refine pure_ (i := 10) (N := some 98) (v := undef) (a' := ?_) #[true, true, true, true, true, true, true, true, true, true, true, false, false, false] rfl rfl (any_of HT_.out (by kernel_rfl)) (fun _ _ _ h => h) (Or.inr ⟨by rfl, rfl⟩) ?_ ?_
 rotate_left
 {
 simp only [Act.put, Q3, i64_w, i32_w]
 rfl}
 refine pure_ (i := 11) (N := some 99) (v := undef) (a' := ?_) #[true, true, true, true, true, true, true, true, true, true, true, true, false, false] rfl rfl (any_of HT_.out (by kernel_rfl)) (fun _ _ _ h => h) (Or.inr ⟨by rfl, rfl⟩) ?_ ?_
 rotate_left
 {
 simp only [Act.put, Q3, i64_w, i32_w]
 rfl}
 refine pure_ (i := 12) (N := some 100) (v := undef) (a' := ?_) #[true, true, true, true, true, true, true, true, true, true, true, true, true, false] rfl rfl (any_of HT_.out (by kernel_rfl)) (fun _ _ _ h => h) (Or.inr ⟨by rfl, rfl⟩) ?_ ?_
 rotate_left
 {
 simp only [Act.put, Q3, i64_w, i32_w]
 rfl}
 refine pure_ (i := 13) (N := some 101) (v := ?_) (a' := ?_) #[true, true, true, true, true, true, true, true, true, true, true, true, true, true] rfl rfl (any_of HT_.out (by kernel_rfl)) (fun _ _ _ h => h) (Or.inl ⟨by rfl, ?_⟩) ?_ ?_
 rotate_left
 {
 intro w'
 go_simp
 with_reducible rfl}
 rotate_left
 {
 simp only [Act.put, Q3, i64_w, i32_w]
 rfl}
 refine done_ (done_of HT_.out (by kernel_rfl)) ?_
 have q90 : (x12_4 : Int) ≤ ((x9_3.length : Int) : Int) := Od (by first | (with_reducible assumption) | assumption)
 obtain ⟨i090, hi090, _, hsz90, _⟩ := info_parts info97
 have hroom90 : x9_3.length ≤ co89 := (Kd.N_reads' HO_9.out).2.1
 have hC90 : Kd.F k97 _ _ Ao89 x9_3.length x9_3 := (Kd.V_at (base := w.heap.size) (Kd.N_V HO_9.out)).2.2
 have hcut90 := cut_to (P := Try.prog) 95 97 .i64 Try.underlying95 hi090 Ao89 x9_3.length co89 x12_4 (Od (by first | (with_reducible assumption) | assumption)) q90 hroom90
 have hr90 := Kd.F_take (m := (x12_4 : Int).toNat) hC90 (by omega)
 have hy90 : y155.length = (x12_4 : Int).toNat := (by rw [Ny155.out, List.length_take]; omega)
 rw [← Ny155.out] at hr90
 rw [← hy90] at hcut90
 have HO159 := Aside0.mk (show Kd.V k97 97 _ w.heap.size _ (.slice Ao89 y155.length co89) y155 from Kd.V_mk (by omega) hr90)
 have HC159 := Aside0.mk (show y155.length ≤ co89 from by omega)
 clear hr90 hC90 hroom90 hi090 hsz90
 have KY90 := Aside0.mk hy90
 clear hy90
 replace q90 := eq_true q90
 try go_wp2_with (first | ((with_reducible refine gate_builtin (b := .append) (xs := #[.tmp 104, .tmp 107]) rfl ?_); at_builtin; refine Kd.N_append_rows k97 (w0 := w) w.heap.size rfl (.tmp 104) (.tmp 107) 95 97 (.agg #[(.int .i64 0), (.bool false), (.slice none 0 0)]) 40 rfl Try.underlying95 info97 rfl (by decide) (by omega) (.slice none 0 0) ([] : List (S97)) y155 _ _ _ (fun k_ => some k_ ≠ (v125 : Value).ownBlock ∧ some k_ ≠ (.slice (some ⟨go28, 0, none⟩) y133.length co35 : Value).ownBlock ∧ k_ ≠ gb132) (fun k_ => ((fun k_ => some k_ ≠ (v125 : Value).ownBlock ∧ some k_ ≠ (.slice (some ⟨go28, 0, none⟩) y133.length co35 : Value).ownBlock ∧ k_ ≠ gb132)) k_ ∧ some k_ ≠ (.slice none 0 0 : Value).ownBlock) rfl rfl ?aO ?aR (fun _ hk => hk) ?aF ?aB ?aS ?aL ?_; (case aR => exact (by skip; exact Kd.V_F (Kd.V_mono (ok' := (fun k_ => ((fun k_ => some k_ ≠ (v125 : Value).ownBlock ∧ some k_ ≠ (.slice (some ⟨go28, 0, none⟩) y133.length co35 : Value).ownBlock ∧ k_ ≠ gb132)) k_ ∧ some k_ ≠ (.slice none 0 0 : Value).ownBlock)) (HO159.out) (fun k_ hk => ⟨⟨hk.1, ⟨hk.2.1, hk.2.2⟩⟩, (by simp [Value.ownBlock])⟩)))); (case aB => exact (by repeat (first | (with_reducible first | exact HB.out | apply Ba | apply Bb | apply Bc | refine below_set ?_ GE132.out) | exact HB.out))); (case aF => exact (fun k_ hk => ⟨Kd.fresh' (Kd.R_lt (by (with_reducible repeat (first | apply Ra | apply Rb | apply Rc)); exact HO_8.out)) k_ hk, Kd.fresh' (Kd.R_lt (by (with_reducible repeat (first | apply Ra | apply Rb | apply Rc)); exact HO_133002.out)) k_ hk, Kd.freshB (g := gb132) (o := .cells #[.int .i64 (rd l1 x10_3), .bool true, .slice (some ⟨go28, 0, none⟩) y133.length co35] 97 (0, 0)) (by (with_reducible repeat (first | refine blk_drewN ?_ _ | refine blk_drew ?_ | refine blk_alloc ?_ _)); exact BK132.out) k_ hk⟩)); (case aO => exact ((Kd.N_nil _ _ _ _ (fun k_ => some k_ ≠ (v125 : Value).ownBlock ∧ some k_ ≠ (.slice (some ⟨go28, 0, none⟩) y133.length co35 : Value).ownBlock ∧ k_ ≠ gb132)))); (case aS => exact (below_size (by repeat (first | (with_reducible first | exact HB.out | apply Ba | apply Bb | apply Bc | refine below_set ?_ GE132.out) | exact HB.out)))); (case aL => have := LMc79.out; omega); intro v161 w91 ho hb hg hat; rw [← Ny160.out] at ho; have n0_ := Aside0.mk (Kd.R_grown (by (with_reducible repeat (first | apply Ra | apply Rb | apply Rc)); exact HO_8.out) hg (fun _ _ => by simp [Value.ownBlock])); have n1_ := Aside0.mk (Kd.N_afterv (Kd.N_apart_nil (by (with_reducible repeat (first | apply Kd.N_alloc | apply Kd.N_drewN | apply Kd.N_drew)); exact HO_9.out)) hg hat); have n2_ := Aside0.mk (Kd.R_grown (by (with_reducible repeat (first | apply Ra | apply Rb | apply Rc)); exact HO_133002.out) hg (fun _ _ => by simp [Value.ownBlock])); have n3_ := Aside0.mk (blk_grown (g := gb132) (o := .cells #[.int .i64 (rd l1 x10_3), .bool true, .slice (some ⟨go28, 0, none⟩) y133.length co35] 97 (0, 0)) (by (with_reducible repeat (first | refine blk_drewN ?_ _ | refine blk_drew ?_ | refine blk_alloc ?_ _)); exact BK132.out) hg (by simp [Value.ownBlock])); have n4_ := Aside0.mk (Kd.V_afterv (Kd.V_apart_nil (by (with_reducible repeat (first | apply Va | apply Vb | apply Vc)); exact HO159.out)) hg hat); have n5_ := Aside0.mk (hb); have n6_ := Aside0.mk (ho); clear HO_8 HO_9 HO_133002 BK132 HO159 HB; have HO_8 := n0_; have HO_9 := n1_; have HO_133002 := n2_; have BK132 := n3_; have HO159 := n4_; have HB := n5_; have HO162 := n6_; clear n0_ n1_ n2_ n3_ n4_ n5_ n6_; clear ho hb hg hat; have hcz92_0 : w91.cell? ⟨gb132, 0, none⟩ = some (.int .i64 (rd l1 x10_3)) := (blk_cell BK132.out 0).trans rfl; have hcz92_1 : w91.cell? ⟨gb132, 1, none⟩ = some (.bool true) := (blk_cell BK132.out 1).trans rfl; have hcz92_2 : w91.cell? ⟨gb132, 2, none⟩ = some (.slice (some ⟨go28, 0, none⟩) y133.length co35) := (blk_cell BK132.out 2).trans rfl; have hfz92_0 := blk_frozen BK132.out 0; have hfz92_1 := blk_frozen BK132.out 1; have hfz92_2 := blk_frozen BK132.out 2) | ((with_reducible refine gate_builtin (b := .append) (xs := #[.tmp 109, .tmp 111]) rfl ?_); at_builtin; refine Kd.N_append k97 (w0 := w) w.heap.size rfl (.tmp 109) (.tmp 111) 95 97 (.agg #[(.int .i64 0), (.bool false), (.slice none 0 0)]) 40 rfl Try.underlying95 info97 rfl (by decide) (by omega) v161 y160 (⟨(rd l1 x10_3), true, y133⟩ : S97) [.int .i64 (rd l1 x10_3), .bool true, .slice (some ⟨go28, 0, none⟩) y133.length co35] (fun k_ => some k_ ≠ (v125 : Value).ownBlock ∧ k_ ≠ gb132) (fun k_ => ((fun k_ => some k_ ≠ (v125 : Value).ownBlock ∧ k_ ≠ gb132)) k_ ∧ some k_ ≠ (v161 : Value).ownBlock) rfl rfl ?aP (fun _ hk => hk) ?aF ?aO ?aB ?aS ?aL ?_; (case aP => exact (k97_mkF _ _ (⟨(rd l1 x10_3), true, y133⟩ : S97) (Kd.R_reads' (Kd.R_mono (ok' := (fun k_ => ((fun k_ => some k_ ≠ (v125 : Value).ownBlock ∧ k_ ≠ gb132)) k_ ∧ some k_ ≠ (v161 : Value).ownBlock)) (Kd.R_types (Kd.R_apart' (HO_133002.out) (Kd.N_typed HO162.out) (by decide)) BK132.out (by decide)) (fun k_ hk => ⟨⟨hk.1.1, hk.2⟩, hk.1.2⟩))).2.1 (Kd.R_F (Kd.R_mono (ok' := (fun k_ => ((fun k_ => some k_ ≠ (v125 : Value).ownBlock ∧ k_ ≠ gb132)) k_ ∧ some k_ ≠ (v161 : Value).ownBlock)) (Kd.R_types (Kd.R_apart' (HO_133002.out) (Kd.N_typed HO162.out) (by decide)) BK132.out (by decide)) (fun k_ hk => ⟨⟨hk.1.1, hk.2⟩, hk.1.2⟩))))); (case aB => exact (by repeat (first | (with_reducible first | exact HB.out | apply Ba | apply Bb | apply Bc | refine below_set ?_ GE132.out) | exact HB.out))); (case aF => exact (fun k_ hk => ⟨Kd.fresh' (Kd.R_lt (by (with_reducible repeat (first | apply Ra | apply Rb | apply Rc)); exact HO_8.out)) k_ hk, Kd.freshB (g := gb132) (o := .cells #[.int .i64 (rd l1 x10_3), .bool true, .slice (some ⟨go28, 0, none⟩) y133.length co35] 97 (0, 0)) (by (with_reducible repeat (first | refine blk_drewN ?_ _ | refine blk_drew ?_ | refine blk_alloc ?_ _)); exact BK132.out) k_ hk⟩)); (case aO => exact (by (with_reducible repeat (first | apply Kd.N_alloc | apply Kd.N_drewN | apply Kd.N_drew)); exact Kd.N_mono HO162.out (fun _ hk => ⟨hk.1, hk.2.2⟩))); (case aS => exact (below_size (by repeat (first | (with_reducible first | exact HB.out | apply Ba | apply Bb | apply Bc | refine below_set ?_ GE132.out) | exact HB.out)))); (case aL => have := LMc80.out; omega); intro v164 w93 ho hb hg hat; rw [← Ny163.out] at ho; have n0_ := Aside0.mk (Kd.R_over' (by (with_reducible repeat (first | apply Ra | apply Rb | apply Rc)); exact HO_8.out) (Kd.N_typed (by (with_reducible repeat (first | apply Kd.N_alloc | apply Kd.N_drewN | apply Kd.N_drew)); exact HO162.out)) (by decide) hg); have n1_ := Aside0.mk (Kd.N_afterv (ok := (fun k_ => some k_ ≠ (v125 : Value).ownBlock ∧ some k_ ≠ (.slice (some ⟨go28, 0, none⟩) y133.length co35 : Value).ownBlock ∧ k_ ≠ gb132)) (by (with_reducible repeat (first | apply Kd.N_alloc | apply Kd.N_drewN | apply Kd.N_drew)); exact HO_9.out) hg hat); have n2_ := Aside0.mk (blk_grown (g := gb132) (o := .cells #[.int .i64 (rd l1 x10_3), .bool true, .slice (some ⟨go28, 0, none⟩) y133.length co35] 97 (0, 0)) (by (with_reducible repeat (first | refine blk_drewN ?_ _ | refine blk_drew ?_ | refine blk_alloc ?_ _)); exact BK132.out) hg (Kd.N_away HO162.out (fun _ hk => hk.2.2))); have n3_ := Aside0.mk (Kd.V_afterv (ok := (fun k_ => some k_ ≠ (v125 : Value).ownBlock ∧ some k_ ≠ (.slice (some ⟨go28, 0, none⟩) y133.length co35 : Value).ownBlock ∧ k_ ≠ gb132)) (by (with_reducible repeat (first | apply Va | apply Vb | apply Vc)); exact HO159.out) hg hat); have n4_ := Aside0.mk (hb); have n5_ := Aside0.mk (ho); clear HO_8 HO_9 BK132 HO159 HB HO162 HO_133002; have HO_8 := n0_; have HO_9 := n1_; have BK132 := n2_; have HO159 := n3_; have HB := n4_; have HO165 := n5_; clear n0_ n1_ n2_ n3_ n4_ n5_; clear ho hb hg hat; have q94 : (x12_4 : Int) ≤ ((x9_3.length : Int) : Int) := Od (by first | (with_reducible assumption) | assumption); obtain ⟨i094, hi094, _, hsz94, _⟩ := info_parts info97; have hroom94 : x9_3.length ≤ co89 := (Kd.N_reads' HO_9.out).2.1; have hC94 : Kd.F k97 _ _ Ao89 x9_3.length x9_3 := (Kd.V_at (base := w.heap.size) (Kd.N_V HO_9.out)).2.2; have q094 : (0 : Int) ≤ (x12_4 : Int) := Od (by first | (with_reducible assumption) | assumption); have hcut94 := cut_from (P := Try.prog) 95 97 .i64 Try.underlying95 hi094 3 hsz94 Ao89 x9_3.length co89 x12_4 q094 q94; have hr94 := Kd.F_cut (m := (x12_4 : Int).toNat) (c := co89) hC94 (by omega) hroom94; obtain ⟨A94, hA94⟩ : ∃ A1, A1 = (if co89 = (x12_4 : Int).toNat then Ao89 else (Ao89 : Option Addr).map (·.add ((x12_4 : Int).toNat * 3))) := ⟨_, rfl⟩; obtain ⟨c94, hc94⟩ : ∃ c1, c1 = co89 - (x12_4 : Int).toNat := ⟨_, rfl⟩; have hy94 : y166.length = x9_3.length - (x12_4 : Int).toNat := (by rw [Ny166.out, List.length_drop] <;> omega); rw [show (x9_3).drop (x12_4 : Int).toNat = y166 from Ny166.out.symm] at hr94; replace hr94 : Kd.F k97 _ _ A94 y166.length y166 := (by rw [hA94]; exact hr94); rw [← hy94, ← hA94, ← hc94] at hcut94; have HO170 := Aside0.mk (show Kd.V k97 97 _ w.heap.size _ (.slice A94 y166.length c94) y166 from Kd.V_mk (by rw [hy94, hc94]; exact Nat.sub_le_sub_right hroom94 _) hr94); have HC170 := Aside0.mk (show y166.length ≤ c94 from by rw [hy94, hc94]; exact Nat.sub_le_sub_right hroom94 _); clear hr94 hC94 hroom94 hi094 hsz94 hc94; have KY94 := Aside0.mk hy94; have KA94 := Aside0.mk hA94; clear hy94 hA94; replace q94 := eq_true q94) | ((with_reducible refine gate_builtin (b := .append) (xs := #[.tmp 113, .tmp 116]) rfl ?_); at_builtin; refine Kd.N_append_rows k97 (w0 := w) w.heap.size rfl (.tmp 113) (.tmp 116) 95 97 (.agg #[(.int .i64 0), (.bool false), (.slice none 0 0)]) 40 rfl Try.underlying95 info97 rfl (by decide) (by omega) v164 y163 y166 _ _ _ (fun k_ => some k_ ≠ (v125 : Value).ownBlock ∧ k_ ≠ gb132) (fun k_ => ((fun k_ => some k_ ≠ (v125 : Value).ownBlock ∧ k_ ≠ gb132)) k_ ∧ some k_ ≠ (v164 : Value).ownBlock) rfl rfl ?aO ?aR (fun _ hk => hk) ?aF ?aB ?aS ?aL ?_; (case aR => exact (by skip; exact Kd.V_F (Kd.V_mono (ok' := (fun k_ => ((fun k_ => some k_ ≠ (v125 : Value).ownBlock ∧ k_ ≠ gb132)) k_ ∧ some k_ ≠ (v164 : Value).ownBlock)) (HO170.out) (fun k_ hk => ⟨⟨hk.1.1, hk.1.2.2⟩, hk.2⟩)))); (case aB => exact (by repeat (first | (with_reducible first | exact HB.out | apply Ba | apply Bb | apply Bc | refine below_set ?_ GE132.out) | exact HB.out))); (case aF => exact (fun k_ hk => ⟨Kd.fresh' (Kd.R_lt (by (with_reducible repeat (first | apply Ra | apply Rb | apply Rc)); exact HO_8.out)) k_ hk, Kd.freshB (g := gb132) (o := .cells #[.int .i64 (rd l1 x10_3), .bool true, .slice (some ⟨go28, 0, none⟩) y133.length co35] 97 (0, 0)) (by (with_reducible repeat (first | refine blk_drewN ?_ _ | refine blk_drew ?_ | refine blk_alloc ?_ _)); exact BK132.out) k_ hk⟩)); (case aO => exact (by (with_reducible repeat (first | apply Kd.N_alloc | apply Kd.N_drewN | apply Kd.N_drew)); exact HO165.out)); (case aS => exact (below_size (by repeat (first | (with_reducible first | exact HB.out | apply Ba | apply Bb | apply Bc | refine below_set ?_ GE132.out) | exact HB.out)))); (case aL => have := LMc83.out; omega); intro v172 w95 ho hb hg hat; rw [← Ny171.out] at ho; have n0_ := Aside0.mk (Kd.R_over' (by (with_reducible repeat (first | apply Ra | apply Rb | apply Rc)); exact HO_8.out) (Kd.N_typed (by (with_reducible repeat (first | apply Kd.N_alloc | apply Kd.N_drewN | apply Kd.N_drew)); exact HO165.out)) (by decide) hg); have n1_ := Aside0.mk (Kd.N_afterv (ok := (fun k_ => some k_ ≠ (v125 : Value).ownBlock ∧ k_ ≠ gb132)) (by (with_reducible repeat (first | apply Kd.N_alloc | apply Kd.N_drewN | apply Kd.N_drew)); exact Kd.N_mono HO_9.out (fun _ hk => ⟨⟨hk.1.1, hk.1.2.2⟩, hk.2⟩)) hg hat); have n2_ := Aside0.mk (blk_grown (g := gb132) (o := .cells #[.int .i64 (rd l1 x10_3), .bool true, .slice (some ⟨go28, 0, none⟩) y133.length co35] 97 (0, 0)) (by (with_reducible repeat (first | refine blk_drewN ?_ _ | refine blk_drew ?_ | refine blk_alloc ?_ _)); exact BK132.out) hg (Kd.N_away HO165.out (fun _ hk => hk.2))); have n3_ := Aside0.mk (Kd.V_afterv (ok := (fun k_ => some k_ ≠ (v125 : Value).ownBlock ∧ k_ ≠ gb132)) (by (with_reducible repeat (first | apply Va | apply Vb | apply Vc)); exact Kd.V_mono HO159.out (fun _ hk => ⟨⟨hk.1.1, hk.1.2.2⟩, hk.2⟩)) hg hat); have n4_ := Aside0.mk (Kd.V_afterv (ok := (fun k_ => some k_ ≠ (v125 : Value).ownBlock ∧ k_ ≠ gb132)) (by (with_reducible repeat (first | apply Va | apply Vb | apply Vc)); exact Kd.V_mono HO170.out (fun _ hk => ⟨⟨hk.1.1, hk.1.2.2⟩, hk.2⟩)) hg hat); have n5_ := Aside0.mk (hb); have n6_ := Aside0.mk (ho); clear HO_8 HO_9 BK132 HO159 HO170 HB HO165; have HO_8 := n0_; have HO_9 := n1_; have BK132 := n2_; have HO159 := n3_; have HO170 := n4_; have HB := n5_; have HO173 := n6_; clear n0_ n1_ n2_ n3_ n4_ n5_ n6_; clear ho hb hg hat; have p87 : 0 ≤ (x10_3 : Int) := Od (by first | (with_reducible assumption) | assumption); have q87 : (x10_3 : Int) < ((x8_3.length : Int) : Int) := Od (by first | (with_reducible assumption) | assumption); obtain ⟨go87, co87, eo87, gb87, gl87, cl87, HG87⟩ := Kd.R_form HO_8.out (by omega); (first | cases eo87 | (injection eo87 with ea_ en_ ec_; (first | subst ea_ | (injection ea_ with ea_; subst ea_)); subst ec_; clear en_)); have GB87 := Aside0.mk gb87; have GG87 := Aside0.mk HG87; clear gb87 gl87 HG87; obtain ⟨hx87_0, hf87_0⟩ := Kd.R_celln 0 HO_8.out (x10_3 : Int) p87 q87; replace p87 := eq_true p87; replace q87 := eq_true q87; have n_ := Aside0.mk (Kd.R_mono (ok' := (fun _ => True)) HO_8.out (fun k_ hk => trivial)); clear HO_8; have HO_8 := n_; clear n_; obtain ⟨hy96_, hz96_⟩ := Kd.R_celln 0 HO_8.out (x10_3 : Int) (Od (by first | (with_reducible assumption) | assumption)) (Od (by first | (with_reducible assumption) | assumption)); have HP96 := Kd.R_putg HO_8.out (x10_3 : Int) 1) | ((with_reducible refine gate_store (t := 3) (p := 122) rfl ?_); refine store_event (t := 3) (p := 122) (v := ?vo_w97) (w1 := (w95.setCell ⟨go87, (x10_3 : Int).toNat, none⟩ (.int .i64 1))) ?hg ?ho ?hn ?hr ?_; (case ho => rfl); (case hg => rfl); (case hn => rfl); (case hr => first | (go_simp; done) | (go_simp; rfl)); intro w97 hw; have hg : w95.grownBy w97 (some go87) := (by rw [hw]; exact HP96.2); have hp_ : Kd.R (Kd.int .i64) 3 w97 w.heap.size (fun _ => True) (.slice (some ⟨go87, 0, none⟩) x8_3.length co87) y174 := (by rw [hw, Ny174.out]; exact HP96.1); clear HP96; have n0_ := Aside0.mk (hp_); have n1_ := Aside0.mk (Kd.N_afterv (v := (.slice (some ⟨go87, 0, none⟩) x8_3.length co87)) (v1 := (.slice (some ⟨go87, 0, none⟩) x8_3.length co87)) (ok := (fun k_ => some k_ ≠ (v172 : Value).ownBlock ∧ k_ ≠ gb132)) (by (with_reducible repeat (first | apply Kd.N_alloc | apply Kd.N_drewN | apply Kd.N_drew)); exact Kd.N_mono HO_9.out (fun _ hk => ⟨⟨hk.2, hk.1.2⟩, hk.1.1⟩)) hg (.inl rfl)); have n2_ := Aside0.mk (blk_grown (g := gb132) (o := .cells #[.int .i64 (rd l1 x10_3), .bool true, .slice (some ⟨go28, 0, none⟩) y133.length co35] 97 (0, 0)) (by (with_reducible repeat (first | refine blk_drewN ?_ _ | refine blk_drew ?_ | refine blk_alloc ?_ _)); exact BK132.out) hg (Kd.R_ne HO_8.out BK132.out (by decide))); have n3_ := Aside0.mk (Kd.V_afterv (v := (.slice (some ⟨go87, 0, none⟩) x8_3.length co87)) (v1 := (.slice (some ⟨go87, 0, none⟩) x8_3.length co87)) (ok := (fun k_ => some k_ ≠ (v172 : Value).ownBlock ∧ k_ ≠ gb132)) (by (with_reducible repeat (first | apply Va | apply Vb | apply Vc)); exact Kd.V_mono HO159.out (fun _ hk => ⟨⟨hk.2, hk.1.2⟩, hk.1.1⟩)) hg (.inl rfl)); have n4_ := Aside0.mk (Kd.V_afterv (v := (.slice (some ⟨go87, 0, none⟩) x8_3.length co87)) (v1 := (.slice (some ⟨go87, 0, none⟩) x8_3.length co87)) (ok := (fun k_ => some k_ ≠ (v172 : Value).ownBlock ∧ k_ ≠ gb132)) (by (with_reducible repeat (first | apply Va | apply Vb | apply Vc)); exact Kd.V_mono HO170.out (fun _ hk => ⟨⟨hk.2, hk.1.2⟩, hk.1.1⟩)) hg (.inl rfl)); have n5_ := Aside0.mk (Kd.N_afterv (v := (.slice (some ⟨go87, 0, none⟩) x8_3.length co87)) (v1 := (.slice (some ⟨go87, 0, none⟩) x8_3.length co87)) (ok := (fun k_ => k_ ≠ gb132)) (by (with_reducible repeat (first | apply Kd.N_alloc | apply Kd.N_drewN | apply Kd.N_drew)); exact Kd.N_mono HO173.out (fun _ hk => ⟨hk.2, hk.1⟩)) hg (.inl rfl)); have n6_ := Aside0.mk ((by rw [hw]; exact below_set (HB.out) GB87.out : Below w.heap.size w w97)); clear HO_8 HO_9 BK132 HO159 HO170 HO173 HB; have HO_8 := n0_; have HO_9 := n1_; have BK132 := n2_; have HO159 := n3_; have HO170 := n4_; have HO173 := n5_; have HB := n6_; clear n0_ n1_ n2_ n3_ n4_ n5_ n6_; clear hg hw hp_))
 go_ret2
 exact ⟨_, by first | rfl | (simp [errW_none, errW_some] <;> rfl) | (simp only [← hji16]; first | rfl | (simp [errW_none, errW_some] <;> rfl)) | (simp [*, errW_none, errW_some] <;> rfl), by (with_reducible repeat (first | apply Ra | apply Rb | apply Rc)); exact HO_8.out, by repeat (first | (with_reducible first | exact HB.out | apply Ba | apply Bb | apply Bc | refine below_set ?_ GE132.out) | exact HB.out)⟩}
 {
 rw [if_neg c86] at H
 exact absurd H (by simp)}}
 {
 rw [if_neg c85] at H
 exact absurd H (by simp)}}
 {
 rw [if_neg c84] at H
 have c84b0 : (x6_2 == 1) = false := beq_eq_false_iff_ne.mpr c84
 have c84b1 : (x6_2 != 1) = true := bne_iff_ne.mpr c84
 have H' := Aside0.mk H
 clear H
 try go_wp2
 have n0_ := Aside0.mk (Rc HO_8.out)
 have n1_ := Aside0.mk (Kd.N_drew HO_9.out)
 have n2_ := Aside0.mk (Rc HO_133002.out)
 have n3_ := Aside0.mk (blk_drew BK132.out)
 have n4_ := Aside0.mk (Bc HB.out)
 clear HO_8
 clear HO_9
 clear HO_133002
 clear BK132
 clear HB
 have HO_8 := n0_
 have HO_9 := n1_
 have HO_133002 := n2_
 have BK132 := n3_
 have HB := n4_
 clear n0_ n1_ n2_ n3_ n4_
 obtain ⟨Ao99, co99, eo99⟩ := Kd.N_slice HO_9.out
 (first | subst eo99 | (injection eo99 with f1_ f2_ f3_; have f4_ := f1_.symm; have f5_ := f3_.symm; clear f1_ f2_ f3_; subst f4_; subst f5_))
 refine start_ (n := 14) (S := fun w' => True) (ds := []) #[false, false, false, false, false, false, false, false, false, false, false, false, false, false] (by kernel_rfl) rfl rfl trivial (fun hHeld => ?_); refine with_tabW vitrineref02_Limit.tab22 vitrineref02_Limit.bits22 (fun HT_ HW_ => ?_)
 generalize wr.drew = w98 at HO_8 HO_9 HO_133002 BK132 HB hHeld ⊢
 refine pure_ (i := 0) (N := some 88) (v := ?_) (a' := ?_) #[true, false, false, false, false, false, false, false, false, false, false, false, false, false] rfl rfl (any_of HT_.out (by kernel_rfl)) (fun _ _ _ h => h) (Or.inl ⟨by rfl, ?_⟩) ?_ ?_
 rotate_left
 {
 intro w'
 go_simp
 with_reducible rfl}
 rotate_left
 {
 simp only [Act.put, Q3, i64_w, i32_w]
 rfl}
 refine pure_ (i := 1) (N := some 89) (v := ?_) (a' := ?_) #[true, true, false, false, false, false, false, false, false, false, false, false, false, false] rfl rfl (any_of HT_.out (by kernel_rfl)) (fun _ _ _ h => h) (Or.inl ⟨by rfl, ?_⟩) ?_ ?_
 rotate_left
 {
 intro w'
 go_simp
 with_reducible rfl}
 rotate_left
 {
 simp only [Act.put, Q3, i64_w, i32_w]
 rfl}
 refine pure_ (i := 2) (N := some 90) (v := ?_) (a' := ?_) #[true, true, true, false, false, false, false, false, false, false, false, false, false, false] rfl rfl (any_of HT_.out (by kernel_rfl)) (fun _ _ _ h => h) (Or.inl ⟨by rfl, ?_⟩) ?_ ?_
 rotate_left
 {
 intro w'
 go_simp
 with_reducible rfl}
 rotate_left
 {
 simp only [Act.put, Q3, i64_w, i32_w]
 rfl}
 refine pure_ (i := 3) (N := some 91) (v := ?_) (a' := ?_) #[true, true, true, true, false, false, false, false, false, false, false, false, false, false] rfl rfl (any_of HT_.out (by kernel_rfl)) (fun _ _ _ h => h) (Or.inl ⟨by rfl, ?_⟩) ?_ ?_
 rotate_left
 {
 intro w'
 go_simp
 with_reducible rfl}
 rotate_left
 {
 simp only [Act.put, Q3, i64_w, i32_w]
 rfl}
 refine pure_ (i := 4) (N := some 92) (v := ?_) (a' := ?_) #[true, true, true, true, true, false, false, false, false, false, false, false, false, false] rfl rfl (any_of HT_.out (by kernel_rfl)) (fun _ _ _ h => h) (Or.inl ⟨by rfl, ?_⟩) ?_ ?_
 rotate_left
 {
 intro w'
 go_simp
 with_reducible rfl}
 rotate_left
 {
 simp only [Act.put, Q3, i64_w, i32_w]
 rfl}
 refine pure_ (i := 5) (N := some 93) (v := undef) (a' := ?_) #[true, true, true, true, true, true, false, false, false, false, false, false, false, false] rfl rfl (any_of HT_.out (by kernel_rfl)) (fun _ _ _ h => h) (Or.inr ⟨by rfl, rfl⟩) ?_ ?_
 rotate_left
 {
 simp only [Act.put, Q3, i64_w, i32_w]
 rfl}
 refine pure_ (i := 6) (N := some 94) (v := undef) (a' := ?_) #[true, true, true, true, true, true, true, false, false, false, false, false, false, false] rfl rfl (any_of HT_.out (by kernel_rfl)) (fun _ _ _ h => h) (Or.inr ⟨by rfl, rfl⟩) ?_ ?_
 rotate_left
 {
 simp only [Act.put, Q3, i64_w, i32_w]
 rfl}
 refine pure_ (i := 7) (N := some 95) (v := undef) (a' := ?_) #[true, true, true, true, true, true, true, true, false, false, false, false, false, false] rfl rfl (any_of HT_.out (by kernel_rfl)) (fun _ _ _ h => h) (Or.inr ⟨by rfl, rfl⟩) ?_ ?_
 rotate_left
 {
 simp only [Act.put, Q3, i64_w, i32_w]
 rfl}
 refine pure_ (i := 8) (N := some 96) (v := undef) (a' := ?_) #[true, true, true, true, true, true, true, true, true, false, false, false, false, false] rfl rfl (any_of HT_.out (by kernel_rfl)) (fun _ _ _ h => h) (Or.inr ⟨by rfl, rfl⟩) ?_ ?_
 rotate_left
 {
 simp only [Act.put, Q3, i64_w, i32_w]
 rfl}
 refine pure_ (i := 9) (N := some 97) (v := undef) (a' := ?_) #[true, true, true, true, true, true, true, true, true, true, false, false, false, false] rfl rfl (any_of HT_.out (by kernel_rfl)) (fun _ _ _ h => h) (Or.inr ⟨by rfl, rfl⟩) ?_ ?_
 rotate_left
 {
 simp only [Act.put, Q3, i64_w, i32_w]
 rfl}
 refine pure_ (i := 10) (N := some 98) (v := undef) (a' := ?_) #[true, true, true, true, true, true, true, true, true, true, true, false, false, false] rfl rfl (any_of HT_.out (by kernel_rfl)) (fun _ _ _ h => h) (Or.inr ⟨by rfl, rfl⟩) ?_ ?_
 rotate_left
 {
 simp only [Act.put, Q3, i64_w, i32_w]
 rfl}
 refine pure_ (i := 11) (N := some 99) (v := undef) (a' := ?_) #[true, true, true, true, true, true, true, true, true, true, true, true, false, false] rfl rfl (any_of HT_.out (by kernel_rfl)) (fun _ _ _ h => h) (Or.inr ⟨by rfl, rfl⟩) ?_ ?_
 rotate_left
 {
 simp only [Act.put, Q3, i64_w, i32_w]
 rfl}
 refine pure_ (i := 12) (N := some 100) (v := undef) (a' := ?_) #[true, true, true, true, true, true, true, true, true, true, true, true, true, false] rfl rfl (any_of HT_.out (by kernel_rfl)) (fun _ _ _ h => h) (Or.inr ⟨by rfl, rfl⟩) ?_ ?_
 rotate_left
 {
 simp only [Act.put, Q3, i64_w, i32_w]
 rfl}
 refine pure_ (i := 13) (N := some 101) (v := ?_) (a' := ?_) #[true, true, true, true, true, true, true, true, true, true, true, true, true, true] rfl rfl (any_of HT_.out (by kernel_rfl)) (fun _ _ _ h => h) (Or.inl ⟨by rfl, ?_⟩) ?_ ?_
 rotate_left
 {
 intro w'
 go_simp
 with_reducible rfl}
 rotate_left
 {
 simp only [Act.put, Q3, i64_w, i32_w]
 rfl}
 refine done_ (done_of HT_.out (by kernel_rfl)) ?_
 have q100 : (x12_4 : Int) ≤ ((x9_3.length : Int) : Int) := Od (by first | (with_reducible assumption) | assumption)
 obtain ⟨i0100, hi0100, _, hsz100, _⟩ := info_parts info97
 have hroom100 : x9_3.length ≤ co99 := (Kd.N_reads' HO_9.out).2.1
 have hC100 : Kd.F k97 _ _ Ao99 x9_3.length x9_3 := (Kd.V_at (base := w.heap.size) (Kd.N_V HO_9.out)).2.2
 have hcut100 := cut_to (P := Try.prog) 95 97 .i64 Try.underlying95 hi0100 Ao99 x9_3.length co99 x12_4 (Od (by first | (with_reducible assumption) | assumption)) q100 hroom100
 have hr100 := Kd.F_take (m := (x12_4 : Int).toNat) hC100 (by omega)
 have hy100 : y155.length = (x12_4 : Int).toNat := (by rw [Ny155.out, List.length_take]; omega)
 rw [← Ny155.out] at hr100
 rw [← hy100] at hcut100
 have HO159 := Aside0.mk (show Kd.V k97 97 _ w.heap.size _ (.slice Ao99 y155.length co99) y155 from Kd.V_mk (by omega) hr100)
 have HC159 := Aside0.mk (show y155.length ≤ co99 from by omega)
 clear hr100 hC100 hroom100 hi0100 hsz100
 have KY100 := Aside0.mk hy100
 clear hy100
 replace q100 := eq_true q100
 try go_wp2_with (first | ((with_reducible refine gate_builtin (b := .append) (xs := #[.tmp 104, .tmp 107]) rfl ?_); at_builtin; refine Kd.N_append_rows k97 (w0 := w) w.heap.size rfl (.tmp 104) (.tmp 107) 95 97 (.agg #[(.int .i64 0), (.bool false), (.slice none 0 0)]) 40 rfl Try.underlying95 info97 rfl (by decide) (by omega) (.slice none 0 0) ([] : List (S97)) y155 _ _ _ (fun k_ => some k_ ≠ (v125 : Value).ownBlock ∧ some k_ ≠ (.slice (some ⟨go28, 0, none⟩) y133.length co35 : Value).ownBlock ∧ k_ ≠ gb132) (fun k_ => ((fun k_ => some k_ ≠ (v125 : Value).ownBlock ∧ some k_ ≠ (.slice (some ⟨go28, 0, none⟩) y133.length co35 : Value).ownBlock ∧ k_ ≠ gb132)) k_ ∧ some k_ ≠ (.slice none 0 0 : Value).ownBlock) rfl rfl ?aO ?aR (fun _ hk => hk) ?aF ?aB ?aS ?aL ?_; (case aR => exact (by skip; exact Kd.V_F (Kd.V_mono (ok' := (fun k_ => ((fun k_ => some k_ ≠ (v125 : Value).ownBlock ∧ some k_ ≠ (.slice (some ⟨go28, 0, none⟩) y133.length co35 : Value).ownBlock ∧ k_ ≠ gb132)) k_ ∧ some k_ ≠ (.slice none 0 0 : Value).ownBlock)) (HO159.out) (fun k_ hk => ⟨⟨hk.1, ⟨hk.2.1, hk.2.2⟩⟩, (by simp [Value.ownBlock])⟩)))); (case aB => exact (by repeat (first | (with_reducible first | exact HB.out | apply Ba | apply Bb | apply Bc | refine below_set ?_ GE132.out) | exact HB.out))); (case aF => exact (fun k_ hk => ⟨Kd.fresh' (Kd.R_lt (by (with_reducible repeat (first | apply Ra | apply Rb | apply Rc)); exact HO_8.out)) k_ hk, Kd.fresh' (Kd.R_lt (by (with_reducible repeat (first | apply Ra | apply Rb | apply Rc)); exact HO_133002.out)) k_ hk, Kd.freshB (g := gb132) (o := .cells #[.int .i64 (rd l1 x10_3), .bool true, .slice (some ⟨go28, 0, none⟩) y133.length co35] 97 (0, 0)) (by (with_reducible repeat (first | refine blk_drewN ?_ _ | refine blk_drew ?_ | refine blk_alloc ?_ _)); exact BK132.out) k_ hk⟩)); (case aO => exact ((Kd.N_nil _ _ _ _ (fun k_ => some k_ ≠ (v125 : Value).ownBlock ∧ some k_ ≠ (.slice (some ⟨go28, 0, none⟩) y133.length co35 : Value).ownBlock ∧ k_ ≠ gb132)))); (case aS => exact (below_size (by repeat (first | (with_reducible first | exact HB.out | apply Ba | apply Bb | apply Bc | refine below_set ?_ GE132.out) | exact HB.out)))); (case aL => have := LMc79.out; omega); intro v161 w101 ho hb hg hat; rw [← Ny160.out] at ho; have n0_ := Aside0.mk (Kd.R_grown (by (with_reducible repeat (first | apply Ra | apply Rb | apply Rc)); exact HO_8.out) hg (fun _ _ => by simp [Value.ownBlock])); have n1_ := Aside0.mk (Kd.N_afterv (Kd.N_apart_nil (by (with_reducible repeat (first | apply Kd.N_alloc | apply Kd.N_drewN | apply Kd.N_drew)); exact HO_9.out)) hg hat); have n2_ := Aside0.mk (Kd.R_grown (by (with_reducible repeat (first | apply Ra | apply Rb | apply Rc)); exact HO_133002.out) hg (fun _ _ => by simp [Value.ownBlock])); have n3_ := Aside0.mk (blk_grown (g := gb132) (o := .cells #[.int .i64 (rd l1 x10_3), .bool true, .slice (some ⟨go28, 0, none⟩) y133.length co35] 97 (0, 0)) (by (with_reducible repeat (first | refine blk_drewN ?_ _ | refine blk_drew ?_ | refine blk_alloc ?_ _)); exact BK132.out) hg (by simp [Value.ownBlock])); have n4_ := Aside0.mk (Kd.V_afterv (Kd.V_apart_nil (by (with_reducible repeat (first | apply Va | apply Vb | apply Vc)); exact HO159.out)) hg hat); have n5_ := Aside0.mk (hb); have n6_ := Aside0.mk (ho); clear HO_8 HO_9 HO_133002 BK132 HO159 HB; have HO_8 := n0_; have HO_9 := n1_; have HO_133002 := n2_; have BK132 := n3_; have HO159 := n4_; have HB := n5_; have HO162 := n6_; clear n0_ n1_ n2_ n3_ n4_ n5_ n6_; clear ho hb hg hat; have hcz102_0 : w101.cell? ⟨gb132, 0, none⟩ = some (.int .i64 (rd l1 x10_3)) := (blk_cell BK132.out 0).trans rfl; have hcz102_1 : w101.cell? ⟨gb132, 1, none⟩ = some (.bool true) := (blk_cell BK132.out 1).trans rfl; have hcz102_2 : w101.cell? ⟨gb132, 2, none⟩ = some (.slice (some ⟨go28, 0, none⟩) y133.length co35) := (blk_cell BK132.out 2).trans rfl; have hfz102_0 := blk_frozen BK132.out 0; have hfz102_1 := blk_frozen BK132.out 1; have hfz102_2 := blk_frozen BK132.out 2) | ((with_reducible refine gate_builtin (b := .append) (xs := #[.tmp 109, .tmp 111]) rfl ?_); at_builtin; refine Kd.N_append k97 (w0 := w) w.heap.size rfl (.tmp 109) (.tmp 111) 95 97 (.agg #[(.int .i64 0), (.bool false), (.slice none 0 0)]) 40 rfl Try.underlying95 info97 rfl (by decide) (by omega) v161 y160 (⟨(rd l1 x10_3), true, y133⟩ : S97) [.int .i64 (rd l1 x10_3), .bool true, .slice (some ⟨go28, 0, none⟩) y133.length co35] (fun k_ => some k_ ≠ (v125 : Value).ownBlock ∧ k_ ≠ gb132) (fun k_ => ((fun k_ => some k_ ≠ (v125 : Value).ownBlock ∧ k_ ≠ gb132)) k_ ∧ some k_ ≠ (v161 : Value).ownBlock) rfl rfl ?aP (fun _ hk => hk) ?aF ?aO ?aB ?aS ?aL ?_; (case aP => exact (k97_mkF _ _ (⟨(rd l1 x10_3), true, y133⟩ : S97) (Kd.R_reads' (Kd.R_mono (ok' := (fun k_ => ((fun k_ => some k_ ≠ (v125 : Value).ownBlock ∧ k_ ≠ gb132)) k_ ∧ some k_ ≠ (v161 : Value).ownBlock)) (Kd.R_types (Kd.R_apart' (HO_133002.out) (Kd.N_typed HO162.out) (by decide)) BK132.out (by decide)) (fun k_ hk => ⟨⟨hk.1.1, hk.2⟩, hk.1.2⟩))).2.1 (Kd.R_F (Kd.R_mono (ok' := (fun k_ => ((fun k_ => some k_ ≠ (v125 : Value).ownBlock ∧ k_ ≠ gb132)) k_ ∧ some k_ ≠ (v161 : Value).ownBlock)) (Kd.R_types (Kd.R_apart' (HO_133002.out) (Kd.N_typed HO162.out) (by decide)) BK132.out (by decide)) (fun k_ hk => ⟨⟨hk.1.1, hk.2⟩, hk.1.2⟩))))); (case aB => exact (by repeat (first | (with_reducible first | exact HB.out | apply Ba | apply Bb | apply Bc | refine below_set ?_ GE132.out) | exact HB.out))); (case aF => exact (fun k_ hk => ⟨Kd.fresh' (Kd.R_lt (by (with_reducible repeat (first | apply Ra | apply Rb | apply Rc)); exact HO_8.out)) k_ hk, Kd.freshB (g := gb132) (o := .cells #[.int .i64 (rd l1 x10_3), .bool true, .slice (some ⟨go28, 0, none⟩) y133.length co35] 97 (0, 0)) (by (with_reducible repeat (first | refine blk_drewN ?_ _ | refine blk_drew ?_ | refine blk_alloc ?_ _)); exact BK132.out) k_ hk⟩)); (case aO => exact (by (with_reducible repeat (first | apply Kd.N_alloc | apply Kd.N_drewN | apply Kd.N_drew)); exact Kd.N_mono HO162.out (fun _ hk => ⟨hk.1, hk.2.2⟩))); (case aS => exact (below_size (by repeat (first | (with_reducible first | exact HB.out | apply Ba | apply Bb | apply Bc | refine below_set ?_ GE132.out) | exact HB.out)))); (case aL => have := LMc80.out; omega); intro v164 w103 ho hb hg hat; rw [← Ny163.out] at ho; have n0_ := Aside0.mk (Kd.R_over' (by (with_reducible repeat (first | apply Ra | apply Rb | apply Rc)); exact HO_8.out) (Kd.N_typed (by (with_reducible repeat (first | apply Kd.N_alloc | apply Kd.N_drewN | apply Kd.N_drew)); exact HO162.out)) (by decide) hg); have n1_ := Aside0.mk (Kd.N_afterv (ok := (fun k_ => some k_ ≠ (v125 : Value).ownBlock ∧ some k_ ≠ (.slice (some ⟨go28, 0, none⟩) y133.length co35 : Value).ownBlock ∧ k_ ≠ gb132)) (by (with_reducible repeat (first | apply Kd.N_alloc | apply Kd.N_drewN | apply Kd.N_drew)); exact HO_9.out) hg hat); have n2_ := Aside0.mk (blk_grown (g := gb132) (o := .cells #[.int .i64 (rd l1 x10_3), .bool true, .slice (some ⟨go28, 0, none⟩) y133.length co35] 97 (0, 0)) (by (with_reducible repeat (first | refine blk_drewN ?_ _ | refine blk_drew ?_ | refine blk_alloc ?_ _)); exact BK132.out) hg (Kd.N_away HO162.out (fun _ hk => hk.2.2))); have n3_ := Aside0.mk (Kd.V_afterv (ok := (fun k_ => some k_ ≠ (v125 : Value).ownBlock ∧ some k_ ≠ (.slice (some ⟨go28, 0, none⟩) y133.length co35 : Value).ownBlock ∧ k_ ≠ gb132)) (by (with_reducible repeat (first | apply Va | apply Vb | apply Vc)); exact HO159.out) hg hat); have n4_ := Aside0.mk (hb); have n5_ := Aside0.mk (ho); clear HO_8 HO_9 BK132 HO159 HB HO162 HO_133002; have HO_8 := n0_; have HO_9 := n1_; have BK132 := n2_; have HO159 := n3_; have HB := n4_; have HO165 := n5_; clear n0_ n1_ n2_ n3_ n4_ n5_; clear ho hb hg hat; have q104 : (x12_4 : Int) ≤ ((x9_3.length : Int) : Int) := Od (by first | (with_reducible assumption) | assumption); obtain ⟨i0104, hi0104, _, hsz104, _⟩ := info_parts info97; have hroom104 : x9_3.length ≤ co99 := (Kd.N_reads' HO_9.out).2.1; have hC104 : Kd.F k97 _ _ Ao99 x9_3.length x9_3 := (Kd.V_at (base := w.heap.size) (Kd.N_V HO_9.out)).2.2; have q0104 : (0 : Int) ≤ (x12_4 : Int) := Od (by first | (with_reducible assumption) | assumption); have hcut104 := cut_from (P := Try.prog) 95 97 .i64 Try.underlying95 hi0104 3 hsz104 Ao99 x9_3.length co99 x12_4 q0104 q104; have hr104 := Kd.F_cut (m := (x12_4 : Int).toNat) (c := co99) hC104 (by omega) hroom104; obtain ⟨A104, hA104⟩ : ∃ A1, A1 = (if co99 = (x12_4 : Int).toNat then Ao99 else (Ao99 : Option Addr).map (·.add ((x12_4 : Int).toNat * 3))) := ⟨_, rfl⟩; obtain ⟨c104, hc104⟩ : ∃ c1, c1 = co99 - (x12_4 : Int).toNat := ⟨_, rfl⟩; have hy104 : y166.length = x9_3.length - (x12_4 : Int).toNat := (by rw [Ny166.out, List.length_drop] <;> omega); rw [show (x9_3).drop (x12_4 : Int).toNat = y166 from Ny166.out.symm] at hr104; replace hr104 : Kd.F k97 _ _ A104 y166.length y166 := (by rw [hA104]; exact hr104); rw [← hy104, ← hA104, ← hc104] at hcut104; have HO170 := Aside0.mk (show Kd.V k97 97 _ w.heap.size _ (.slice A104 y166.length c104) y166 from Kd.V_mk (by rw [hy104, hc104]; exact Nat.sub_le_sub_right hroom104 _) hr104); have HC170 := Aside0.mk (show y166.length ≤ c104 from by rw [hy104, hc104]; exact Nat.sub_le_sub_right hroom104 _); clear hr104 hC104 hroom104 hi0104 hsz104 hc104; have KY104 := Aside0.mk hy104; have KA104 := Aside0.mk hA104; clear hy104 hA104; replace q104 := eq_true q104) | ((with_reducible refine gate_builtin (b := .append) (xs := #[.tmp 113, .tmp 116]) rfl ?_); at_builtin; refine Kd.N_append_rows k97 (w0 := w) w.heap.size rfl (.tmp 113) (.tmp 116) 95 97 (.agg #[(.int .i64 0), (.bool false), (.slice none 0 0)]) 40 rfl Try.underlying95 info97 rfl (by decide) (by omega) v164 y163 y166 _ _ _ (fun k_ => some k_ ≠ (v125 : Value).ownBlock ∧ k_ ≠ gb132) (fun k_ => ((fun k_ => some k_ ≠ (v125 : Value).ownBlock ∧ k_ ≠ gb132)) k_ ∧ some k_ ≠ (v164 : Value).ownBlock) rfl rfl ?aO ?aR (fun _ hk => hk) ?aF ?aB ?aS ?aL ?_; (case aR => exact (by skip; exact Kd.V_F (Kd.V_mono (ok' := (fun k_ => ((fun k_ => some k_ ≠ (v125 : Value).ownBlock ∧ k_ ≠ gb132)) k_ ∧ some k_ ≠ (v164 : Value).ownBlock)) (HO170.out) (fun k_ hk => ⟨⟨hk.1.1, hk.1.2.2⟩, hk.2⟩)))); (case aB => exact (by repeat (first | (with_reducible first | exact HB.out | apply Ba | apply Bb | apply Bc | refine below_set ?_ GE132.out) | exact HB.out))); (case aF => exact (fun k_ hk => ⟨Kd.fresh' (Kd.R_lt (by (with_reducible repeat (first | apply Ra | apply Rb | apply Rc)); exact HO_8.out)) k_ hk, Kd.freshB (g := gb132) (o := .cells #[.int .i64 (rd l1 x10_3), .bool true, .slice (some ⟨go28, 0, none⟩) y133.length co35] 97 (0, 0)) (by (with_reducible repeat (first | refine blk_drewN ?_ _ | refine blk_drew ?_ | refine blk_alloc ?_ _)); exact BK132.out) k_ hk⟩)); (case aO => exact (by (with_reducible repeat (first | apply Kd.N_alloc | apply Kd.N_drewN | apply Kd.N_drew)); exact HO165.out)); (case aS => exact (below_size (by repeat (first | (with_reducible first | exact HB.out | apply Ba | apply Bb | apply Bc | refine below_set ?_ GE132.out) | exact HB.out)))); (case aL => have := LMc83.out; omega); intro v172 w105 ho hb hg hat; rw [← Ny171.out] at ho; have n0_ := Aside0.mk (Kd.R_over' (by (with_reducible repeat (first | apply Ra | apply Rb | apply Rc)); exact HO_8.out) (Kd.N_typed (by (with_reducible repeat (first | apply Kd.N_alloc | apply Kd.N_drewN | apply Kd.N_drew)); exact HO165.out)) (by decide) hg); have n1_ := Aside0.mk (Kd.N_afterv (ok := (fun k_ => some k_ ≠ (v125 : Value).ownBlock ∧ k_ ≠ gb132)) (by (with_reducible repeat (first | apply Kd.N_alloc | apply Kd.N_drewN | apply Kd.N_drew)); exact Kd.N_mono HO_9.out (fun _ hk => ⟨⟨hk.1.1, hk.1.2.2⟩, hk.2⟩)) hg hat); have n2_ := Aside0.mk (blk_grown (g := gb132) (o := .cells #[.int .i64 (rd l1 x10_3), .bool true, .slice (some ⟨go28, 0, none⟩) y133.length co35] 97 (0, 0)) (by (with_reducible repeat (first | refine blk_drewN ?_ _ | refine blk_drew ?_ | refine blk_alloc ?_ _)); exact BK132.out) hg (Kd.N_away HO165.out (fun _ hk => hk.2))); have n3_ := Aside0.mk (Kd.V_afterv (ok := (fun k_ => some k_ ≠ (v125 : Value).ownBlock ∧ k_ ≠ gb132)) (by (with_reducible repeat (first | apply Va | apply Vb | apply Vc)); exact Kd.V_mono HO159.out (fun _ hk => ⟨⟨hk.1.1, hk.1.2.2⟩, hk.2⟩)) hg hat); have n4_ := Aside0.mk (Kd.V_afterv (ok := (fun k_ => some k_ ≠ (v125 : Value).ownBlock ∧ k_ ≠ gb132)) (by (with_reducible repeat (first | apply Va | apply Vb | apply Vc)); exact Kd.V_mono HO170.out (fun _ hk => ⟨⟨hk.1.1, hk.1.2.2⟩, hk.2⟩)) hg hat); have n5_ := Aside0.mk (hb); have n6_ := Aside0.mk (ho); clear HO_8 HO_9 BK132 HO159 HO170 HB HO165; have HO_8 := n0_; have HO_9 := n1_; have BK132 := n2_; have HO159 := n3_; have HO170 := n4_; have HB := n5_; have HO173 := n6_; clear n0_ n1_ n2_ n3_ n4_ n5_ n6_; clear ho hb hg hat))
 (try simp only [← hl133002_4])
 go_roundg k4
 case measure => have := HJ2.out; have := HK2.out; have := HK3.out; have := HK4.out; omega
 case rel => exact ⟨(x8_3), (y171), (wrap64 (x10_3 + 1)), (by first | rfl | (simp; done) | (simp [*]; done)), H', ⟨by have := HJ2.out; have := HK2.out; have := HK3.out; have := HK4.out; omega⟩, ⟨by (try simp only [hl133002_4]); (with_reducible repeat (first | apply Ra | apply Rb | apply Rc)); exact Kd.R_mono HO_8.out (fun _ hk => trivial)⟩, ⟨by (try simp only [hl133002_4]); (with_reducible repeat (first | apply Kd.N_alloc | apply Kd.N_drewN | apply Kd.N_drew)); exact Kd.N_mono HO173.out (fun _ hk => hk.1)⟩, ⟨by repeat (first | (with_reducible first | exact HB.out | apply Ba | apply Bb | apply Bc | refine below_set ?_ GE132.out) | exact HB.out)⟩⟩}}
 {
 rw [if_neg c83] at H
 exact absurd H (by simp)}}
 {
 rw [if_neg c80] at H
 exact absurd H (by simp)}}
 {
 rw [if_neg c79] at H
 exact absurd H (by simp)}}
 {
 rw [if_neg c78] at H
 exact absurd H (by simp)}}
 {
 rw [if_neg c77] at H
 exact absurd H (by simp)}})))}
 {
 rw [if_neg c27] at H
 exact absurd H (by simp)}}
 {
 rw [if_neg c26] at H
 exact absurd H (by simp)}}
 {
 rw [if_neg c25] at H
 exact absurd H (by simp)}}}
 {
 rw [if_neg c23] at H
 exact absurd H (by simp)}}
 {
 rw [if_neg c22] at H
 have c22b0 : decide (x10_3 < (l1.length : Int)) = false := decide_eq_false c22
 clear c22
 have H' := Aside0.mk H
 clear H
 go_wp2
 go_loopg [14, 15] k3 (fun kq v14 v15 w' => ∃ (x8_4 : List Int) (x14_4 : List (S97)) (x15_4 : Int), v15 = .int .i64 x15_4 ∧ Aside0 (vitrineref02_Limit.l3 kq a0 l1 x6_2 x8_4 x9_3 x14_4 x15_4 = some (r1, r2)) ∧ Aside0 (kq ≤ k3) ∧ Aside0 (Kd.R (Kd.int .i64) 3 w' w.heap.size (fun _ => True) v125 x8_4) ∧ Aside0 (Kd.N k97 97 w' w.heap.size (fun k_ => some k_ ≠ (v125 : Value).ownBlock) u9 x9_3) ∧ Aside0 (Kd.N k97 97 w' w.heap.size (fun k_ => some k_ ≠ (v125 : Value).ownBlock) v14 x14_4) ∧ Aside0 (Below w.heap.size w w'))
 case atStart => exact ⟨(x8_3), (x9_3), (1), (by first | rfl | (simp; done) | (simp [*]; done)), H', ⟨Nat.le_refl _⟩, ⟨by (with_reducible repeat (first | apply Ra | apply Rb | apply Rc)); exact HO_8.out⟩, ⟨by (with_reducible repeat (first | apply Kd.N_alloc | apply Kd.N_drewN | apply Kd.N_drew)); exact HO_9.out⟩, ⟨by (with_reducible repeat (first | apply Kd.N_alloc | apply Kd.N_drewN | apply Kd.N_drew)); exact HO_9.out⟩, ⟨by repeat (first | (with_reducible first | exact HB.out | apply Ba | apply Bb | apply Bc) | exact HB.out)⟩⟩
 case round => (as_aux_lemma => (
 clear H'
 try clear c1
 try clear p1
 try clear q1
 try clear hx1
 try clear c2
 try clear p2
 try clear c4
 try clear c5
 try clear p5
 try clear q5
 try clear hx5
 try clear hf5
 try clear c6
 try clear p6
 try clear q6
 try clear c7
 try clear q7
 try clear c8
 try clear p8
 try clear q8
 try clear hx8
 try clear hf8
 try clear c9
 try clear q9
 try clear c10
 try clear q10
 try clear c13
 try clear p13
 try clear q13
 try clear hx13
 try clear c22
 try clear c22b0
 try clear c23
 try clear c25
 try clear c26
 try clear c27
 try clear c43
 try clear c43b0
 try clear c44
 try clear c49
 try clear c50
 try clear c51
 try clear c54
 try clear c55
 try clear c55b0
 try clear c55b1
 try clear c56
 try clear c57
 try clear p58
 try clear q58
 try clear hx58
 try clear hf58
 try clear q61
 try clear p64
 try clear c65
 try clear q65
 try clear q71
 try clear c75
 try clear q75
 try clear c77
 try clear c77b0
 try clear c77b1
 try clear c78
 try clear c78b0
 try clear c78b1
 try clear c79
 try clear c80
 try clear c81
 try clear c81b0
 try clear c82
 try clear c82b0
 try clear c83
 try clear c84
 try clear c84b0
 try clear c84b1
 try clear c85
 try clear c85b0
 try clear c86
 try clear c86b0
 try clear p87
 try clear q87
 try clear hx87
 try clear hf87
 try clear q90
 try clear c94
 try clear q94
 try clear q100
 try clear c104
 try clear q104
 try clear hcz102_0
 try clear hcz102_1
 try clear hcz102_2
 try clear hcz63_0
 try clear hcz63_1
 try clear hcz63_2
 try clear hcz73_0
 try clear hcz73_1
 try clear hcz73_2
 try clear hcz92_0
 try clear hcz92_1
 try clear hcz92_2
 try clear hfz102_0
 try clear hfz102_1
 try clear hfz102_2
 try clear hfz63_0
 try clear hfz63_1
 try clear hfz63_2
 try clear hfz73_0
 try clear hfz73_1
 try clear hfz73_2
 try clear hfz92_0
 try clear hfz92_1
 try clear hfz92_2
 try clear hx134_0
 try clear hx134_1
 try clear hx134_2
 try clear hx58_0
 try clear hx87_0
 try clear p134
 try clear p58
 try clear p87
 try clear q0104
 try clear q065
 try clear q075
 try clear q094
 try clear q100
 try clear q104
 try clear q134
 try clear q58
 try clear q61
 try clear q65
 try clear q71
 try clear q75
 try clear q87
 try clear q90
 try clear q94
 obtain ⟨x8_4, x14_4, x15_4, rfl, HA, HK4, HO_8, HO_9, HO_14, HB⟩ := hrel
 cases gk with
 | zero => exact absurd HA.out (by simp [vitrineref02_Limit.l3])
 | succ k4 => (
 have H := HA.out
 clear HA
 simp only [vitrineref02_Limit.l3] at H
 by_cases c106 : x15_4 < a0
 {
 rw [if_pos c106] at H
 have c106b0 : decide (x15_4 < a0) = true := decide_eq_true c106
 clear c106
 have H' := Aside0.mk H
 clear H
 go_wp2
 go_loopg [16, 17] k4 (fun kq v16 v17 w' => ∃ (x8_5 : List Int) (x16_5 : List (S97)) (x17_5 : Int), v17 = .int .i64 x17_5 ∧ Aside0 (vitrineref02_Limit.l4 kq a0 l1 x6_2 x8_5 x9_3 x14_4 x15_4 x16_5 x17_5 = some (r1, r2)) ∧ Aside0 (kq ≤ k4) ∧ Aside0 (Kd.R (Kd.int .i64) 3 w' w.heap.size (fun _ => True) v125 x8_5) ∧ Aside0 (Kd.N k97 97 w' w.heap.size (fun k_ => some k_ ≠ (v125 : Value).ownBlock ∧ some k_ ≠ (v16 : Value).ownBlock) u9 x9_3) ∧ Aside0 (Kd.N k97 97 w' w.heap.size (fun k_ => some k_ ≠ (v125 : Value).ownBlock ∧ some k_ ≠ (v16 : Value).ownBlock) u14 x14_4) ∧ Aside0 (Kd.N k97 97 w' w.heap.size (fun k_ => some k_ ≠ (v125 : Value).ownBlock ∧ some k_ ≠ (u9 : Value).ownBlock ∧ some k_ ≠ (u14 : Value).ownBlock) v16 x16_5) ∧ Aside0 (Below w.heap.size w w'))
 case atStart => exact ⟨(x8_4), (([] : List (S97))), (0), (by first | rfl | (simp; done) | (simp [*]; done)), H', ⟨Nat.le_refl _⟩, ⟨by (with_reducible repeat (first | apply Ra | apply Rb | apply Rc)); exact HO_8.out⟩, ⟨by (with_reducible repeat (first | apply Kd.N_alloc | apply Kd.N_drewN | apply Kd.N_drew)); exact Kd.N_mono HO_9.out (fun _ hk => ⟨hk, (by simp [Value.ownBlock])⟩)⟩, ⟨by (with_reducible repeat (first | apply Kd.N_alloc | apply Kd.N_drewN | apply Kd.N_drew)); exact Kd.N_mono HO_14.out (fun _ hk => ⟨hk, (by simp [Value.ownBlock])⟩)⟩, ⟨by first | exact Kd.S_nil _ _ _ _ _ | exact Kd.N_nil _ _ _ _ _ | exact Kd.V_nil _ _ _ _ _ | exact Kd.Q_nil _ _ _ _ _ | exact Kd.R_nil _ _ _ _ _⟩, ⟨by repeat (first | (with_reducible first | exact HB.out | apply Ba | apply Bb | apply Bc) | exact HB.out)⟩⟩
 case round => (as_aux_lemma => (
 clear H'
 try clear c1
 try clear p1
 try clear q1
 try clear hx1
 try clear c2
 try clear p2
 try clear c4
 try clear c5
 try clear p5
 try clear q5
 try clear hx5
 try clear hf5
 try clear c6
 try clear p6
 try clear q6
 try clear c7
 try clear q7
 try clear c8
 try clear p8
 try clear q8
 try clear hx8
 try clear hf8
 try clear c9
 try clear q9
 try clear c10
 try clear q10
 try clear c13
 try clear p13
 try clear q13
 try clear hx13
 try clear c22
 try clear c22b0
 try clear c23
 try clear c25
 try clear c26
 try clear c27
 try clear c43
 try clear c43b0
 try clear c44
 try clear c49
 try clear c50
 try clear c51
 try clear c54
 try clear c55
 try clear c55b0
 try clear c55b1
 try clear c56
 try clear c57
 try clear p58
 try clear q58
 try clear hx58
 try clear hf58
 try clear q61
 try clear p64
 try clear c65
 try clear q65
 try clear q71
 try clear c75
 try clear q75
 try clear c77
 try clear c77b0
 try clear c77b1
 try clear c78
 try clear c78b0
 try clear c78b1
 try clear c79
 try clear c80
 try clear c81
 try clear c81b0
 try clear c82
 try clear c82b0
 try clear c83
 try clear c84
 try clear c84b0
 try clear c84b1
 try clear c85
 try clear c85b0
 try clear c86
 try clear c86b0
 try clear p87
 try clear q87
 try clear hx87
 try clear hf87
 try clear q90
 try clear c94
 try clear q94
 try clear q100
 try clear c104
 try clear q104
 try clear c106
 try clear c106b0
 try clear hcz102_0
 try clear hcz102_1
 try clear hcz102_2
 try clear hcz63_0
 try clear hcz63_1
 try clear hcz63_2
 try clear hcz73_0
 try clear hcz73_1
 try clear hcz73_2
 try clear hcz92_0
 try clear hcz92_1
 try clear hcz92_2
 try clear hfz102_0
 try clear hfz102_1
 try clear hfz102_2
 try clear hfz63_0
 try clear hfz63_1
 try clear hfz63_2
 try clear hfz73_0
 try clear hfz73_1
 try clear hfz73_2
 try clear hfz92_0
 try clear hfz92_1
 try clear hfz92_2
 try clear hx134_0
 try clear hx134_1
 try clear hx134_2
 try clear hx58_0
 try clear hx87_0
 try clear p1
 try clear p13
 try clear p134
 try clear p2
 try clear p5
 try clear p58
 try clear p6
 try clear p64
 try clear p8
 try clear p87
 try clear q0104
 try clear q065
 try clear q075
 try clear q094
 try clear q1
 try clear q10
 try clear q100
 try clear q104
 try clear q13
 try clear q134
 try clear q5
 try clear q58
 try clear q6
 try clear q61
 try clear q65
 try clear q7
 try clear q71
 try clear q75
 try clear q8
 try clear q87
 try clear q9
 try clear q90
 try clear q94
 obtain ⟨x8_5, x16_5, x17_5, rfl, HA, HK5, HO_8, HO_9, HO_14, HO_16, HB⟩ := hrel
 cases gk with
 | zero => exact absurd HA.out (by simp [vitrineref02_Limit.l4])
 | succ k5 => (
 have H := HA.out
 clear HA
 simp only [vitrineref02_Limit.l4] at H
 by_cases c107 : (wrap64 (x17_5 + 1)) < (x14_4.length : Int)
 {
 rw [if_pos c107] at H
 have c107b0 : decide ((wrap64 (x17_5 + 1)) < (x14_4.length : Int)) = true := decide_eq_true c107
 clear c107
 by_cases c108 : 0 ≤ x17_5
 {
 rw [if_pos c108] at H
 have c108b0 : decide (0 ≤ x17_5) = true := decide_eq_true c108
 clear c108
 by_cases c109 : x17_5 < (x14_4.length : Int)
 {
 rw [if_pos c109] at H
 have c109b0 : decide (x17_5 < (x14_4.length : Int)) = true := decide_eq_true c109
 clear c109
 obtain ⟨ji110, hji110⟩ : ∃ j_ : Int, (wrap64 (x17_5 + 1)) = j_ := ⟨_, rfl⟩
 replace H : (if 0 ≤ (ji110) then (if 0 ≤ (l1.length : Int) then (if ((l1.length : Int) : Int).toNat ≤ 35184372088832 then (vitrineref02_Limit.l5 k5 a0 l1 x6_2 x8_5 x9_3 x14_4 x15_4 x16_5 x17_5 0 (wrap64 (((rd_T97 x14_4 x17_5).f0) + ((rd_T97 x14_4 (ji110)).f0))) false (List.replicate ((l1.length : Int) : Int).toNat 0)) else (none)) else (none)) else (none)) = some (r1, r2) := by first | (rw [hji110] at H; exact H) | (simp only [hji110] at H ⊢; exact H)
 (try rw [hji110] at c107b0)
 have hji110w : (IntKind.i64.wrap (x17_5 + 1)) = ji110 := (i64_w _).trans hji110
 by_cases c111 : 0 ≤ (ji110)
 {
 rw [if_pos c111] at H
 have c111b0 : decide (0 ≤ (ji110)) = true := decide_eq_true c111
 clear c111
 by_cases c112 : 0 ≤ (l1.length : Int)
 {
 rw [if_pos c112] at H
 have c112b0 := eq_true c112
 have c112b1 : decide (0 ≤ (l1.length : Int)) = true := decide_eq_true c112
 clear c112
 by_cases c113 : ((l1.length : Int) : Int).toNat ≤ 35184372088832
 {
 rw [if_pos c113] at H
 have c113b0 := eq_true c113
 have c113b1 : decide (((l1.length : Int) : Int).toNat ≤ 35184372088832) = true := decide_eq_true c113
 clear c113
 obtain ⟨y180, hy180⟩ : ∃ y_ : List Int, y_ = (List.replicate ((l1.length : Int) : Int).toNat 0) := ⟨_, rfl⟩
 replace H : (vitrineref02_Limit.l5 k5 a0 l1 x6_2 x8_5 x9_3 x14_4 x15_4 x16_5 x17_5 0 (wrap64 (((rd_T97 x14_4 x17_5).f0) + ((rd_T97 x14_4 (ji110)).f0))) false y180) = some (r1, r2) := by first | (rw [hy180]; with_reducible exact H) | (have H2_ := (Option.bind_some _ _).symm.trans H; rw [hy180]; with_reducible exact H2_) | (have H2_ := (Option.bind_some _ _).symm.trans H; with_reducible exact H2_) | with_reducible exact H | (rw [hy180]; exact H) | exact H
 have Ny180 := Aside0.mk hy180
 clear hy180
 have H' := Aside0.mk H
 clear H
 obtain ⟨Ao114, co114, eo114⟩ := Kd.N_slice HO_14.out
 subst eo114
 try go_wp2
 have n0_ := Aside0.mk (Rc HO_8.out)
 have n1_ := Aside0.mk (Kd.N_drew HO_9.out)
 have n2_ := Aside0.mk (Kd.N_drew HO_14.out)
 have n3_ := Aside0.mk (Kd.N_drew HO_16.out)
 have n4_ := Aside0.mk (Bc HB.out)
 clear HO_8
 clear HO_9
 clear HO_14
 clear HO_16
 clear HB
 have HO_8 := n0_
 have HO_9 := n1_
 have HO_14 := n2_
 have HO_16 := n3_
 have HB := n4_
 clear n0_ n1_ n2_ n3_ n4_
 have p178 : 0 ≤ (x17_5 : Int) := Od (by first | (with_reducible assumption) | assumption)
 have q178 : x17_5 < (x14_4.length : Int) := Od (by first | (with_reducible assumption) | assumption)
 obtain ⟨ad178, A178_2, c178_2, e178, hx178_0, hx178_1, hx178_2, hl178_2, hi178_2⟩ := at_T97 (Kd.N_reads' HO_14.out).2.2 x17_5 p178 q178
 cases e178
 obtain ⟨ce178, hce178, hMe178, hcc178⟩ := Kd.N_get HO_14.out z97 x17_5 p178 (by first | exact q178 | exact Od (by first | (with_reducible assumption) | assumption) | (have e_ := (Kd.N_reads' HO_14.out).1; omega))
 obtain ⟨ua178_2, uc178_2, rfl, ul178_2, ge178_2⟩ := k97_openF hMe178
 have hv178_2 := hcc178 2 _ rfl
 rw [add_field _ _ 2 (by omega)] at hv178_2
 replace hv178_2 := Option.some.inj (hv178_2.symm.trans hx178_2)
 injection hv178_2 with hva_ hvn_ hvc_
 rw [hva_] at ge178_2
 rw [hvc_] at ul178_2
 have HL178_2 := Aside0.mk (show Kd.V (Kd.int .i64) 3 _ w.heap.size _ _ ((rd_T97 x14_4 x17_5).f2) from Kd.V_mk ul178_2 ge178_2)
 clear hva_ hvn_ hvc_ ge178_2 ul178_2
 clear hcc178 hce178
 have HR178_2 := Aside0.mk hi178_2
 have HC178_2 := Aside0.mk hl178_2
 clear hi178_2 hl178_2
 replace p178 := eq_true p178
 replace q178 := eq_true q178
 have p179 : 0 ≤ ((ji110) : Int) := Od (by first | (with_reducible assumption) | assumption)
 have q179 : (ji110) < (x14_4.length : Int) := Od (by first | (with_reducible assumption) | assumption)
 obtain ⟨ad179, A179_2, c179_2, e179, hx179_0, hx179_1, hx179_2, hl179_2, hi179_2⟩ := at_T97 (Kd.N_reads' HO_14.out).2.2 (ji110) p179 q179
 obtain rfl : ad178 = ad179 := (by injection e179)
 obtain ⟨ce179, hce179, hMe179, hcc179⟩ := Kd.N_get HO_14.out z97 (ji110) p179 (by first | exact q179 | exact Od (by first | (with_reducible assumption) | assumption) | (have e_ := (Kd.N_reads' HO_14.out).1; omega))
 obtain ⟨ua179_2, uc179_2, rfl, ul179_2, ge179_2⟩ := k97_openF hMe179
 have hv179_2 := hcc179 2 _ rfl
 rw [add_field _ _ 2 (by omega)] at hv179_2
 replace hv179_2 := Option.some.inj (hv179_2.symm.trans hx179_2)
 injection hv179_2 with hva_ hvn_ hvc_
 rw [hva_] at ge179_2
 rw [hvc_] at ul179_2
 have HL179_2 := Aside0.mk (show Kd.V (Kd.int .i64) 3 _ w.heap.size _ _ ((rd_T97 x14_4 (ji110)).f2) from Kd.V_mk ul179_2 ge179_2)
 clear hva_ hvn_ hvc_ ge179_2 ul179_2
 clear hcc179 hce179
 have HR179_2 := Aside0.mk hi179_2
 have HC179_2 := Aside0.mk hl179_2
 clear hi179_2 hl179_2
 replace p179 := eq_true p179
 replace q179 := eq_true q179
 refine start_ (n := 18) (S := fun w' => w'.cell? (ad178.add ((x17_5).toNat * 3)) = some (.int .i64 ((rd_T97 x14_4 x17_5).f0)) ∧ w'.cell? ⟨(ad178.add ((x17_5).toNat * 3)).block, (ad178.add ((x17_5).toNat * 3)).off + 1, none⟩ = some (.bool ((rd_T97 x14_4 x17_5).f1)) ∧ w'.cell? ⟨(ad178.add ((x17_5).toNat * 3)).block, (ad178.add ((x17_5).toNat * 3)).off + 2, none⟩ = some (.slice A178_2 ((rd_T97 x14_4 x17_5).f2).length c178_2) ∧ w'.cell? (ad178.add (((ji110)).toNat * 3)) = some (.int .i64 ((rd_T97 x14_4 (ji110)).f0)) ∧ w'.cell? ⟨(ad178.add (((ji110)).toNat * 3)).block, (ad178.add (((ji110)).toNat * 3)).off + 1, none⟩ = some (.bool ((rd_T97 x14_4 (ji110)).f1)) ∧ w'.cell? ⟨(ad178.add (((ji110)).toNat * 3)).block, (ad178.add (((ji110)).toNat * 3)).off + 2, none⟩ = some (.slice A179_2 ((rd_T97 x14_4 (ji110)).f2).length c179_2)) (ds := []) #[false, false, false, false, false, false, false, false, false, false, false, false, false, false, false, false, false, false] (by kernel_rfl) rfl rfl ⟨hx178_0, hx178_1, hx178_2, hx179_0, hx179_1, hx179_2⟩ (fun hHeld => ?_); refine with_tabW vitrineref02_Limit.tab39 vitrineref02_Limit.bits39 (fun HT_ HW_ => ?_)
 generalize wr.drew = w115 at HO_8 HO_9 HO_14 HO_16 HB HL178_2 HL179_2 HR178_2 HR179_2 hx178_0 hx178_1 hx178_2 hx179_0 hx179_1 hx179_2 hHeld ⊢
 refine pure_ (i := 0) (N := some 137) (v := ?_) (a' := ?_) #[true, false, false, false, false, false, false, false, false, false, false, false, false, false, false, false, false, false] rfl rfl (any_of HT_.out (by kernel_rfl)) (fun _ _ _ h => h) (Or.inl ⟨by rfl, ?_⟩) ?_ ?_
 rotate_left
 {
 intro w'
 go_simp
 with_reducible rfl}
 rotate_left
 {
 simp only [Act.put, Q3, i64_w, i32_w]
 rfl}
 refine pure_ (i := 1) (N := some 138) (v := ?_) (a' := ?_) #[true, true, false, false, false, false, false, false, false, false, false, false, false, false, false, false, false, false] rfl rfl (any_of HT_.out (by kernel_rfl)) (fun _ _ _ h => h) (Or.inl ⟨by rfl, ?_⟩) ?_ ?_
 rotate_left
 {
 intro w'
 go_simp
 with_reducible rfl}
 rotate_left
 {
 simp only [Act.put, Q3, i64_w, i32_w]
 rfl}
 refine pure_ (i := 2) (N := some 139) (v := ?_) (a' := ?_) #[true, true, true, false, false, false, false, false, false, false, false, false, false, false, false, false, false, false] rfl rfl (any_of HT_.out (by kernel_rfl)) (fun _ _ _ h => h) (Or.inl ⟨by rfl, ?_⟩) ?_ ?_
 rotate_left
 {
 intro w'
 go_simp
 with_reducible rfl}
 rotate_left
 {
 simp only [Act.put, Q3, i64_w, i32_w]
 rfl}
 refine pure_ (i := 3) (N := some 140) (v := ?_) (a' := ?_) #[true, true, true, true, false, false, false, false, false, false, false, false, false, false, false, false, false, false] rfl rfl (any_of HT_.out (by kernel_rfl)) (fun _ _ _ h => h) (Or.inl ⟨by rfl, ?_⟩) ?_ ?_
 rotate_left
 {
 intro w'
 go_simp
 with_reducible rfl}
 rotate_left
 {
 simp only [Act.put, Q3, i64_w, i32_w]
 rfl}
 refine pure_ (i := 5) (N := some 142) (v := ?_) (a' := ?_) #[true, true, true, true, false, true, false, false, false, false, false, false, false, false, false, false, false, false] rfl rfl (any_of HT_.out (by kernel_rfl)) (fun _ _ _ h => h) (Or.inl ⟨by rfl, ?_⟩) ?_ ?_
 rotate_left
 {
 intro w'
 go_simp
 with_reducible rfl}
 rotate_left
 {
 simp only [Act.put, Q3, i64_w, i32_w]
 rfl}
 refine pure_ (i := 6) (N := some 143) (v := ?_) (a' := ?_) #[true, true, true, true, false, true, true, false, false, false, false, false, false, false, false, false, false, false] rfl rfl (any_of HT_.out (by kernel_rfl)) (fun _ _ _ h => h) (Or.inl ⟨by rfl, ?_⟩) ?_ ?_
 rotate_left
 {
 intro w'
 go_simp
 with_reducible rfl}
 rotate_left
 {
 simp only [Act.put, Q3, i64_w, i32_w]
 rfl}
 refine pure_ (i := 7) (N := some 144) (v := ?_) (a' := ?_) #[true, true, true, true, false, true, true, true, false, false, false, false, false, false, false, false, false, false] rfl rfl (any_of HT_.out (by kernel_rfl)) (fun _ _ _ h => h) (Or.inl ⟨by rfl, ?_⟩) ?_ ?_
 rotate_left
 {
 intro w'
 go_simp
 with_reducible rfl}
 rotate_left
 {
 simp only [Act.put, Q3, i64_w, i32_w]
 rfl}
 refine pure_ (i := 8) (N := some 145) (v := ?_) (a' := ?_) #[true, true, true, true, false, true, true, true, true, false, false, false, false, false, false, false, false, false] rfl rfl (any_of HT_.out (by kernel_rfl)) (fun _ _ _ h => h) (Or.inl ⟨by rfl, ?_⟩) ?_ ?_
 rotate_left
 {
 intro w'
 go_simp
 with_reducible rfl}
 rotate_left
 {
 simp only [Act.put, Q3, i64_w, i32_w]
 rfl}
 refine pure_ (i := 9) (N := some 146) (v := ?_) (a' := ?_) #[true, true, true, true, false, true, true, true, true, true, false, false, false, false, false, false, false, false] rfl rfl (any_of HT_.out (by kernel_rfl)) (fun _ _ _ h => h) (Or.inl ⟨by rfl, ?_⟩) ?_ ?_
 rotate_left
 {
 intro w'
 go_simp
 with_reducible rfl}
 rotate_left
 {
 simp only [Act.put, Q3, i64_w, i32_w]
 rfl}
 refine pure_ (i := 12) (N := some 149) (v := ?_) (a' := ?_) #[true, true, true, true, false, true, true, true, true, true, false, false, true, false, false, false, false, false] rfl rfl (any_of HT_.out (by kernel_rfl)) (fun _ _ _ h => h) (Or.inl ⟨by rfl, ?_⟩) ?_ ?_
 rotate_left
 {
 intro w'
 go_simp
 with_reducible rfl}
 rotate_left
 {
 simp only [Act.put, Q3, i64_w, i32_w]
 rfl}
 refine pure_ (i := 13) (N := some 150) (v := ?_) (a' := ?_) #[true, true, true, true, false, true, true, true, true, true, false, false, true, true, false, false, false, false] rfl rfl (any_of HT_.out (by kernel_rfl)) (fun _ _ _ h => h) (Or.inl ⟨by rfl, ?_⟩) ?_ ?_
 rotate_left
 {
 intro w'
 go_simp
 with_reducible rfl}
 rotate_left
 {
 simp only [Act.put, Q3, i64_w, i32_w]
 rfl}
 refine take_ (i := 4) (N := some 141) (v := ?_) (a' := ?_) #[true, true, true, true, true, true, true, true, true, true, false, false, true, true, false, false, false, false] rfl rfl (take_ofW HT_.out HW_.out (by kernel_rfl)) (fun _ _ _ h => h) (Or.inl ⟨by rfl, ?_⟩) hHeld ?_ ?_
 rotate_left
 {
 rintro w' ⟨s0, s1, s2, s3, s4, s5⟩
 go_simp
 with_reducible rfl}
 rotate_left
 {
 simp only [Act.put, Q3, i64_w, i32_w]
 rfl}
 refine take_ (i := 10) (N := some 147) (v := ?_) (a' := ?_) #[true, true, true, true, true, true, true, true, true, true, true, false, true, true, false, false, false, false] rfl rfl (take_ofW HT_.out HW_.out (by kernel_rfl)) (fun _ _ _ h => h) (Or.inl ⟨by rfl, ?_⟩) hHeld ?_ ?_
 rotate_left
 {
 rintro w' ⟨s0, s1, s2, s3, s4, s5⟩
 go_simp
 with_reducible rfl}
 rotate_left
 {
 simp only [Act.put, Q3, i64_w, i32_w]
 rfl}
 refine pure_ (i := 11) (N := some 148) (v := ?_) (a' := ?_) #[true, true, true, true, true, true, true, true, true, true, true, true, true, true, false, false, false, false] rfl rfl (any_of HT_.out (by kernel_rfl)) (fun _ _ _ h => h) (Or.inl ⟨by rfl, ?_⟩) ?_ ?_
 rotate_left
 {
 intro w'
 go_simp
 with_reducible rfl}
 rotate_left
 {
 simp only [Act.put, Q3, i64_w, i32_w]
 rfl}
 refine join_ (σ := Value × Nat) 1 #[true, true, true, true, true, true, true, true, true, true, true, true, true, true, true, true, true, false] (fun s_ => [(151, s_.1), (18, .pointer (some ⟨s_.2, 0, none⟩)), (152, .agg #[.int .i64 (wrap64 (((rd_T97 x14_4 x17_5).f0) + ((rd_T97 x14_4 (ji110)).f0))), .bool false, s_.1])]) (fun s_ w' => (w'.cell? (ad178.add ((x17_5).toNat * 3)) = some (.int .i64 ((rd_T97 x14_4 x17_5).f0)) ∧ w'.cell? ⟨(ad178.add ((x17_5).toNat * 3)).block, (ad178.add ((x17_5).toNat * 3)).off + 1, none⟩ = some (.bool ((rd_T97 x14_4 x17_5).f1)) ∧ w'.cell? ⟨(ad178.add ((x17_5).toNat * 3)).block, (ad178.add ((x17_5).toNat * 3)).off + 2, none⟩ = some (.slice A178_2 ((rd_T97 x14_4 x17_5).f2).length c178_2) ∧ w'.cell? (ad178.add (((ji110)).toNat * 3)) = some (.int .i64 ((rd_T97 x14_4 (ji110)).f0)) ∧ w'.cell? ⟨(ad178.add (((ji110)).toNat * 3)).block, (ad178.add (((ji110)).toNat * 3)).off + 1, none⟩ = some (.bool ((rd_T97 x14_4 (ji110)).f1)) ∧ w'.cell? ⟨(ad178.add (((ji110)).toNat * 3)).block, (ad178.add (((ji110)).toNat * 3)).off + 2, none⟩ = some (.slice A179_2 ((rd_T97 x14_4 (ji110)).f2).length c179_2)) ∧ (Kd.V (Kd.int .i64) 3 w' w.heap.size (fun k_ => some k_ ≠ (s_.1 : Value).ownBlock ∧ some k_ ≠ (.slice (some ad178) x14_4.length co114 : Value).ownBlock ∧ some k_ ≠ (u16 : Value).ownBlock ∧ some k_ ≠ (v125 : Value).ownBlock ∧ k_ ≠ s_.2) (.slice A178_2 ((rd_T97 x14_4 x17_5).f2).length c178_2) ((rd_T97 x14_4 x17_5).f2)) ∧ (Kd.V (Kd.int .i64) 3 w' w.heap.size (fun k_ => some k_ ≠ (s_.1 : Value).ownBlock ∧ some k_ ≠ (.slice (some ad178) x14_4.length co114 : Value).ownBlock ∧ some k_ ≠ (u16 : Value).ownBlock ∧ some k_ ≠ (v125 : Value).ownBlock ∧ k_ ≠ s_.2) (.slice A179_2 ((rd_T97 x14_4 (ji110)).f2).length c179_2) ((rd_T97 x14_4 (ji110)).f2)) ∧ (Kd.R (Kd.int .i64) 3 w' w.heap.size (fun k_ => some k_ ≠ (v125 : Value).ownBlock) s_.1 y180) ∧ (Kd.N k97 97 w' w.heap.size (fun k_ => some k_ ≠ (s_.1 : Value).ownBlock ∧ some k_ ≠ (u16 : Value).ownBlock ∧ some k_ ≠ (v125 : Value).ownBlock ∧ k_ ≠ s_.2) (.slice (some ad178) x14_4.length co114) x14_4) ∧ (Kd.N k97 97 w' w.heap.size (fun k_ => some k_ ≠ (s_.1 : Value).ownBlock ∧ some k_ ≠ (.slice (some ad178) x14_4.length co114 : Value).ownBlock ∧ some k_ ≠ (v125 : Value).ownBlock ∧ some k_ ≠ (u9 : Value).ownBlock ∧ k_ ≠ s_.2) u16 x16_5) ∧ (Kd.R (Kd.int .i64) 3 w' w.heap.size (fun k_ => some k_ ≠ (s_.1 : Value).ownBlock) v125 x8_5) ∧ (Kd.N k97 97 w' w.heap.size (fun k_ => some k_ ≠ (s_.1 : Value).ownBlock ∧ some k_ ≠ (u16 : Value).ownBlock ∧ some k_ ≠ (v125 : Value).ownBlock ∧ k_ ≠ s_.2) u9 x9_3) ∧ (w'.heap[s_.2]? = some (.cells #[.int .i64 0, .bool false, .slice none 0 0] 97 (0, 0))) ∧ (w.heap.size ≤ s_.2) ∧ (w.heap.size ≤ s_.2) ∧ (Below w.heap.size w w')) ?_ ?_
 rotate_left
 {
 intro hCont
 refine two_ (i := 14) (j := 16) (Ni := some 151) (Nj := some 18) #[true, true, true, true, true, true, true, true, true, true, true, true, true, true, true, false, false, false] #[true, true, true, true, true, true, true, true, true, true, true, true, true, true, false, false, true, false] rfl rfl rfl rfl (two_of HT_.out (by kernel_rfl)) (by decide) (by decide) (fun K hK => ?_) (fun K hK => ?_)
 {
 skip
 refine Kd.R_make_step (Kd.int .i64) _ 3 (by rfl) (N := 151) rfl 51 _ _ rfl (l1.length : Int) rfl rfl Try.underlying51 (.int .i64 0) 8 info3 rfl (by decide) (by omega) 0 (ok := fun _ => True) (okp := fun _ => True) rfl (fun _ hk => hk) trivial (Od (by first | (with_reducible assumption) | assumption)) (Nat.le_trans (Nat.mul_le_mul_right _ (Od (by first | (with_reducible assumption) | assumption) : (l1.length : Int).toNat ≤ 35184372088832)) (by omega)) (Below.refl _ _) (Nat.le_refl _) ?_
 intro v181 w116 ho117 hb hg_ hnew_
 have HS0_ := (hb.cell (Wc _ _ (hHeld.1))).trans (hHeld.1)
 have HS1_ := (hb.cell (Wc _ _ (hHeld.2.1))).trans (hHeld.2.1)
 have HS2_ := (hb.cell (Wc _ _ (hHeld.2.2.1))).trans (hHeld.2.2.1)
 have HS3_ := (hb.cell (Wc _ _ (hHeld.2.2.2.1))).trans (hHeld.2.2.2.1)
 have HS4_ := (hb.cell (Wc _ _ (hHeld.2.2.2.2.1))).trans (hHeld.2.2.2.2.1)
 have HS5_ := (hb.cell (Wc _ _ (hHeld.2.2.2.2.2))).trans (hHeld.2.2.2.2.2)
 clear hg_ hnew_
 (first | rw [← Ny180.out] at ho117 | (simp only [Int.reduceToNat] at ho117; rw [← Ny180.out] at ho117))
 have n0_ := Aside0.mk (Kd.R_elder' (by (with_reducible repeat (first | apply Ra | apply Rb | apply Rc)); exact HO_8.out) (Kd.R_base ho117) hb)
 have n1_ := Aside0.mk (Kd.N_elder' (by (with_reducible repeat (first | apply Kd.N_alloc | apply Kd.N_drewN | apply Kd.N_drew)); exact HO_9.out) (Kd.R_base ho117) hb)
 have n2_ := Aside0.mk (Kd.N_elder' (by (with_reducible repeat (first | apply Kd.N_alloc | apply Kd.N_drewN | apply Kd.N_drew)); exact HO_14.out) (Kd.R_base ho117) hb)
 have n3_ := Aside0.mk (Kd.N_elder' (by (with_reducible repeat (first | apply Kd.N_alloc | apply Kd.N_drewN | apply Kd.N_drew)); exact HO_16.out) (Kd.R_base ho117) hb)
 have n4_ := Aside0.mk (Kd.V_elder' (by (with_reducible repeat (first | apply Va | apply Vb | apply Vc)); exact HL178_2.out) (Kd.R_base ho117) hb)
 have n5_ := Aside0.mk (Kd.V_elder' (by (with_reducible repeat (first | apply Va | apply Vb | apply Vc)); exact HL179_2.out) (Kd.R_base ho117) hb)
 have n6_ := Aside0.mk (Kd.R_lower (Kd.R_new' ho117 (Kd.R_lt (by (with_reducible repeat (first | apply Ra | apply Rb | apply Rc)); exact HO_8.out))) (below_size (by repeat (first | (with_reducible first | exact HB.out | apply Ba | apply Bb | apply Bc) | exact HB.out))))
 have n7_ := Aside0.mk (Kd.C_below (by repeat (first | (with_reducible exact HR178_2.out) | (with_reducible refine Kd.C_alloc ?_ _) | (with_reducible refine Kd.C_drewN ?_ _) | (with_reducible refine Kd.C_drew ?_) | exact HR178_2.out)) hb)
 have n8_ := Aside0.mk (Kd.C_below (by repeat (first | (with_reducible exact HR179_2.out) | (with_reducible refine Kd.C_alloc ?_ _) | (with_reducible refine Kd.C_drewN ?_ _) | (with_reducible refine Kd.C_drew ?_) | exact HR179_2.out)) hb)
 have n9_ := Aside0.mk (below_step (by repeat (first | (with_reducible first | exact HB.out | apply Ba | apply Bb | apply Bc) | exact HB.out)) hb)
 clear HO_8
 clear HO_9
 clear HO_14
 clear HO_16
 clear HL178_2
 clear HL179_2
 clear HR178_2
 clear HR179_2
 clear HB
 have HO_8 := n0_
 have HO_9 := n1_
 have HO_14 := n2_
 have HO_16 := n3_
 have HL178_2 := n4_
 have HL179_2 := n5_
 have HO182 := n6_
 have HR178_2 := n7_
 have HR179_2 := n8_
 have HB := n9_
 clear n0_ n1_ n2_ n3_ n4_ n5_ n6_ n7_ n8_ n9_
 clear hb ho117
 obtain ⟨Ao118, co118, eo118⟩ := Kd.R_slice HO182.out
 (first | subst eo118 | (injection eo118 with f1_ f2_ f3_; have f4_ := f1_.symm; have f5_ := f3_.symm; clear f1_ f2_ f3_; subst f4_; subst f5_))
 refine hK.out _ _ ⟨HS0_, HS1_, HS2_, HS3_, HS4_, HS5_⟩ (fun hHeld => ?_)
 clear hK K
 refine norm_ (a' := ?_) ?_ ?_
 rotate_left
 {
 show Act.put _ (some 151) _ = _
 simp only [Act.put, Q3, i64_w, i32_w]
 rfl}
 refine pure_ (i := 15) (N := some 152) (v := ?_) (a' := ?_) #[true, true, true, true, true, true, true, true, true, true, true, true, true, true, true, true, false, false] rfl rfl (any_of HT_.out (by kernel_rfl)) (fun _ _ _ h => h) (Or.inl ⟨by rfl, ?_⟩) ?_ ?_
 rotate_left
 {
 intro w'
 go_simp
 with_reducible rfl}
 rotate_left
 {
 simp only [Act.put, Q3, i64_w, i32_w]
 rfl}
 refine one_ (i := 16) (N := some 18) #[true, true, true, true, true, true, true, true, true, true, true, true, true, true, true, true, true, false] rfl rfl (one_of HT_.out (by kernel_rfl)) (by decide) (fun K hK => ?_)
 refine box_step ?hg (N := 18) ?hd (cs := #[.int .i64 0, .bool false, .slice none 0 0]) (t := 97) ?hr ?_; (case hd => rfl); (case hg => rfl); (case hr => first | (go_simp; done) | (go_simp; rfl))
 intro gb183 hg w119 hbox hb
 have HS0_ := (hb.cell (Wc _ _ (hHeld.1))).trans (hHeld.1)
 have HS1_ := (hb.cell (Wc _ _ (hHeld.2.1))).trans (hHeld.2.1)
 have HS2_ := (hb.cell (Wc _ _ (hHeld.2.2.1))).trans (hHeld.2.2.1)
 have HS3_ := (hb.cell (Wc _ _ (hHeld.2.2.2.1))).trans (hHeld.2.2.2.1)
 have HS4_ := (hb.cell (Wc _ _ (hHeld.2.2.2.2.1))).trans (hHeld.2.2.2.2.1)
 have HS5_ := (hb.cell (Wc _ _ (hHeld.2.2.2.2.2))).trans (hHeld.2.2.2.2.2)
 have n0_ := Aside0.mk (Kd.R_below (by (with_reducible repeat (first | apply Ra | apply Rb | apply Rc)); exact HO_8.out) hb)
 have n1_ := Aside0.mk (Kd.N_below (Kd.N_elderB (by (with_reducible repeat (first | apply Kd.N_alloc | apply Kd.N_drewN | apply Kd.N_drew)); exact HO_9.out) gb183 (Nat.le_of_eq hg.symm)) hb)
 have n2_ := Aside0.mk (Kd.N_below (Kd.N_elderB (by (with_reducible repeat (first | apply Kd.N_alloc | apply Kd.N_drewN | apply Kd.N_drew)); exact HO_14.out) gb183 (Nat.le_of_eq hg.symm)) hb)
 have n3_ := Aside0.mk (Kd.N_below (Kd.N_elderB (by (with_reducible repeat (first | apply Kd.N_alloc | apply Kd.N_drewN | apply Kd.N_drew)); exact HO_16.out) gb183 (Nat.le_of_eq hg.symm)) hb)
 have n4_ := Aside0.mk (Kd.V_below (Kd.V_elderB (by (with_reducible repeat (first | apply Va | apply Vb | apply Vc)); exact HL178_2.out) gb183 (Nat.le_of_eq hg.symm)) hb)
 have n5_ := Aside0.mk (Kd.V_below (Kd.V_elderB (by (with_reducible repeat (first | apply Va | apply Vb | apply Vc)); exact HL179_2.out) gb183 (Nat.le_of_eq hg.symm)) hb)
 have n6_ := Aside0.mk (Kd.R_below (by (with_reducible repeat (first | apply Ra | apply Rb | apply Rc)); exact HO182.out) hb)
 have n7_ := Aside0.mk (Kd.C_below (by repeat (first | (with_reducible exact HR178_2.out) | (with_reducible refine Kd.C_alloc ?_ _) | (with_reducible refine Kd.C_drewN ?_ _) | (with_reducible refine Kd.C_drew ?_) | exact HR178_2.out)) hb)
 have n8_ := Aside0.mk (Kd.C_below (by repeat (first | (with_reducible exact HR179_2.out) | (with_reducible refine Kd.C_alloc ?_ _) | (with_reducible refine Kd.C_drewN ?_ _) | (with_reducible refine Kd.C_drew ?_) | exact HR179_2.out)) hb)
 have n9_ := Aside0.mk (below_step (by repeat (first | (with_reducible first | exact HB.out | apply Ba | apply Bb | apply Bc) | exact HB.out)) hb)
 have n10_ := Aside0.mk (hbox)
 have n11_ := Aside0.mk ((by rw [hg]; exact (below_size (by repeat (first | (with_reducible first | exact HB.out | apply Ba | apply Bb | apply Bc) | exact HB.out))) : w.heap.size ≤ gb183))
 have n12_ := Aside0.mk ((by rw [hg]; exact (below_size (by repeat (first | (with_reducible first | exact HB.out | apply Ba | apply Bb | apply Bc) | exact HB.out))) : w.heap.size ≤ gb183))
 clear HO_8
 clear HO_9
 clear HO_14
 clear HO_16
 clear HL178_2
 clear HL179_2
 clear HO182
 clear HR178_2
 clear HR179_2
 clear HB
 have HO_8 := n0_
 have HO_9 := n1_
 have HO_14 := n2_
 have HO_16 := n3_
 have HL178_2 := n4_
 have HL179_2 := n5_
 have HO182 := n6_
 have HR178_2 := n7_
 have HR179_2 := n8_
 have HB := n9_
 have BK183 := n10_
 have GW183 := n11_
 have GE183 := n12_
 clear n0_ n1_ n2_ n3_ n4_ n5_ n6_ n7_ n8_ n9_ n10_ n11_ n12_
 clear hb hbox hg
 refine hK.out _ _ ⟨HS0_, HS1_, HS2_, HS3_, HS4_, HS5_⟩ (fun hHeld => ?_)
 clear hK K
 refine norm_ (a' := ?_) ?_ ?_
 rotate_left
 {
 show Act.put _ (some 18) _ = _
 simp only [Act.put, Q3, i64_w, i32_w]
 rfl}
 exact norm_ (by simp only [putAll, Act.put, Q3]) (hCont (.slice Ao118 y180.length co118, gb183) _ ⟨hHeld, (by (with_reducible repeat (first | apply Va | apply Vb | apply Vc)); exact Kd.V_mono HL178_2.out (fun _ hk => ⟨hk.1.2, ⟨hk.1.1.2, ⟨hk.1.1.1.2, ⟨hk.1.1.1.1, hk.2⟩⟩⟩⟩)), (by (with_reducible repeat (first | apply Va | apply Vb | apply Vc)); exact Kd.V_mono HL179_2.out (fun _ hk => ⟨hk.1.2, ⟨hk.1.1.2, ⟨hk.1.1.1.2, ⟨hk.1.1.1.1, hk.2⟩⟩⟩⟩)), (by (with_reducible repeat (first | apply Ra | apply Rb | apply Rc)); exact Kd.R_mono HO182.out (fun _ hk => hk.2)), (by (with_reducible repeat (first | apply Kd.N_alloc | apply Kd.N_drewN | apply Kd.N_drew)); exact Kd.N_mono HO_14.out (fun _ hk => ⟨hk.1.2, ⟨hk.1.1.2, ⟨hk.1.1.1, hk.2⟩⟩⟩)), (by (with_reducible repeat (first | apply Kd.N_alloc | apply Kd.N_drewN | apply Kd.N_drew)); exact Kd.N_mono HO_16.out (fun _ hk => ⟨hk.1.2, ⟨hk.1.1.2.2, ⟨hk.1.1.1, ⟨hk.1.1.2.1, hk.2⟩⟩⟩⟩)), (by (with_reducible repeat (first | apply Ra | apply Rb | apply Rc)); exact Kd.R_mono HO_8.out (fun _ hk => hk.2)), (by (with_reducible repeat (first | apply Kd.N_alloc | apply Kd.N_drewN | apply Kd.N_drew)); exact Kd.N_mono HO_9.out (fun _ hk => ⟨hk.1.2, ⟨hk.1.1.2, ⟨hk.1.1.1, hk.2⟩⟩⟩)), (by (with_reducible repeat (first | refine blk_drewN ?_ _ | refine blk_drew ?_ | refine blk_alloc ?_ _)); exact BK183.out), GW183.out, GE183.out, (by repeat (first | (with_reducible first | exact HB.out | apply Ba | apply Bb | apply Bc | refine below_set ?_ GE183.out) | exact HB.out))⟩)}
 {
 skip
 refine box_step ?hg (N := 18) ?hd (cs := #[.int .i64 0, .bool false, .slice none 0 0]) (t := 97) ?hr ?_; (case hd => rfl); (case hg => rfl); (case hr => first | (go_simp; done) | (go_simp; rfl))
 intro gb183 hg w116 hbox hb
 have HS0_ := (hb.cell (Wc _ _ (hHeld.1))).trans (hHeld.1)
 have HS1_ := (hb.cell (Wc _ _ (hHeld.2.1))).trans (hHeld.2.1)
 have HS2_ := (hb.cell (Wc _ _ (hHeld.2.2.1))).trans (hHeld.2.2.1)
 have HS3_ := (hb.cell (Wc _ _ (hHeld.2.2.2.1))).trans (hHeld.2.2.2.1)
 have HS4_ := (hb.cell (Wc _ _ (hHeld.2.2.2.2.1))).trans (hHeld.2.2.2.2.1)
 have HS5_ := (hb.cell (Wc _ _ (hHeld.2.2.2.2.2))).trans (hHeld.2.2.2.2.2)
 have n0_ := Aside0.mk (Kd.R_below (by (with_reducible repeat (first | apply Ra | apply Rb | apply Rc)); exact HO_8.out) hb)
 have n1_ := Aside0.mk (Kd.N_below (Kd.N_elderB (by (with_reducible repeat (first | apply Kd.N_alloc | apply Kd.N_drewN | apply Kd.N_drew)); exact HO_9.out) gb183 (Nat.le_of_eq hg.symm)) hb)
 have n2_ := Aside0.mk (Kd.N_below (Kd.N_elderB (by (with_reducible repeat (first | apply Kd.N_alloc | apply Kd.N_drewN | apply Kd.N_drew)); exact HO_14.out) gb183 (Nat.le_of_eq hg.symm)) hb)
 have n3_ := Aside0.mk (Kd.N_below (Kd.N_elderB (by (with_reducible repeat (first | apply Kd.N_alloc | apply Kd.N_drewN | apply Kd.N_drew)); exact HO_16.out) gb183 (Nat.le_of_eq hg.symm)) hb)
 have n4_ := Aside0.mk (Kd.V_below (Kd.V_elderB (by (with_reducible repeat (first | apply Va | apply Vb | apply Vc)); exact HL178_2.out) gb183 (Nat.le_of_eq hg.symm)) hb)
 have n5_ := Aside0.mk (Kd.V_below (Kd.V_elderB (by (with_reducible repeat (first | apply Va | apply Vb | apply Vc)); exact HL179_2.out) gb183 (Nat.le_of_eq hg.symm)) hb)
 have n6_ := Aside0.mk (Kd.C_below (by repeat (first | (with_reducible exact HR178_2.out) | (with_reducible refine Kd.C_alloc ?_ _) | (with_reducible refine Kd.C_drewN ?_ _) | (with_reducible refine Kd.C_drew ?_) | exact HR178_2.out)) hb)
 have n7_ := Aside0.mk (Kd.C_below (by repeat (first | (with_reducible exact HR179_2.out) | (with_reducible refine Kd.C_alloc ?_ _) | (with_reducible refine Kd.C_drewN ?_ _) | (with_reducible refine Kd.C_drew ?_) | exact HR179_2.out)) hb)
 have n8_ := Aside0.mk (below_step (by repeat (first | (with_reducible first | exact HB.out | apply Ba | apply Bb | apply Bc) | exact HB.out)) hb)
 have n9_ := Aside0.mk (hbox)
 have n10_ := Aside0.mk ((by rw [hg]; exact (below_size (by repeat (first | (with_reducible first | exact HB.out | apply Ba | apply Bb | apply Bc) | exact HB.out))) : w.heap.size ≤ gb183))
 have n11_ := Aside0.mk ((by rw [hg]; exact (below_size (by repeat (first | (with_reducible first | exact HB.out | apply Ba | apply Bb | apply Bc) | exact HB.out))) : w.heap.size ≤ gb183))
 clear HO_8
 clear HO_9
 clear HO_14
 clear HO_16
 clear HL178_2
 clear HL179_2
 clear HR178_2
 clear HR179_2
 clear HB
 have HO_8 := n0_
 have HO_9 := n1_
 have HO_14 := n2_
 have HO_16 := n3_
 have HL178_2 := n4_
 have HL179_2 := n5_
 have HR178_2 := n6_
 have HR179_2 := n7_
 have HB := n8_
 have BK183 := n9_
 have GW183 := n10_
 have GE183 := n11_
 clear n0_ n1_ n2_ n3_ n4_ n5_ n6_ n7_ n8_ n9_ n10_ n11_
 clear hb hbox hg
 refine hK.out _ _ ⟨HS0_, HS1_, HS2_, HS3_, HS4_, HS5_⟩ (fun hHeld => ?_)
 clear hK K
 refine norm_ (a' := ?_) ?_ ?_
 rotate_left
 {
 show Act.put _ (some 18) _ = _
 simp only [Act.put, Q3, i64_w, i32_w]
 rfl}
 refine one_ (i := 14) (N := some 151) #[true, true, true, true, true, true, true, true, true, true, true, true, true, true, true, false, true, false] rfl rfl (one_of HT_.out (by kernel_rfl)) (by decide) (fun K hK => ?_)
 refine Kd.R_make_step (Kd.int .i64) _ 3 (by rfl) (N := 151) rfl 51 _ _ rfl (l1.length : Int) rfl rfl Try.underlying51 (.int .i64 0) 8 info3 rfl (by decide) (by omega) 0 (ok := fun _ => True) (okp := fun _ => True) rfl (fun _ hk => hk) trivial (Od (by first | (with_reducible assumption) | assumption)) (Nat.le_trans (Nat.mul_le_mul_right _ (Od (by first | (with_reducible assumption) | assumption) : (l1.length : Int).toNat ≤ 35184372088832)) (by omega)) (Below.refl _ _) (Nat.le_refl _) ?_
 intro v181 w117 ho118 hb hg_ hnew_
 have HS0_ := (hb.cell (Wc _ _ (hHeld.1))).trans (hHeld.1)
 have HS1_ := (hb.cell (Wc _ _ (hHeld.2.1))).trans (hHeld.2.1)
 have HS2_ := (hb.cell (Wc _ _ (hHeld.2.2.1))).trans (hHeld.2.2.1)
 have HS3_ := (hb.cell (Wc _ _ (hHeld.2.2.2.1))).trans (hHeld.2.2.2.1)
 have HS4_ := (hb.cell (Wc _ _ (hHeld.2.2.2.2.1))).trans (hHeld.2.2.2.2.1)
 have HS5_ := (hb.cell (Wc _ _ (hHeld.2.2.2.2.2))).trans (hHeld.2.2.2.2.2)
 clear hg_ hnew_
 (first | rw [← Ny180.out] at ho118 | (simp only [Int.reduceToNat] at ho118; rw [← Ny180.out] at ho118))
 have n0_ := Aside0.mk (Kd.R_elder' (by (with_reducible repeat (first | apply Ra | apply Rb | apply Rc)); exact HO_8.out) (Kd.R_base ho118) hb)
 have n1_ := Aside0.mk (Kd.N_elder' (by (with_reducible repeat (first | apply Kd.N_alloc | apply Kd.N_drewN | apply Kd.N_drew)); exact HO_9.out) (Kd.R_base ho118) hb)
 have n2_ := Aside0.mk (Kd.N_elder' (by (with_reducible repeat (first | apply Kd.N_alloc | apply Kd.N_drewN | apply Kd.N_drew)); exact HO_14.out) (Kd.R_base ho118) hb)
 have n3_ := Aside0.mk (Kd.N_elder' (by (with_reducible repeat (first | apply Kd.N_alloc | apply Kd.N_drewN | apply Kd.N_drew)); exact HO_16.out) (Kd.R_base ho118) hb)
 have n4_ := Aside0.mk (Kd.V_elder' (by (with_reducible repeat (first | apply Va | apply Vb | apply Vc)); exact HL178_2.out) (Kd.R_base ho118) hb)
 have n5_ := Aside0.mk (Kd.V_elder' (by (with_reducible repeat (first | apply Va | apply Vb | apply Vc)); exact HL179_2.out) (Kd.R_base ho118) hb)
 have n6_ := Aside0.mk (Kd.R_lower (Kd.R_new' ho118 (Kd.R_lt (by (with_reducible repeat (first | apply Ra | apply Rb | apply Rc)); exact HO_8.out))) (below_size (by repeat (first | (with_reducible first | exact HB.out | apply Ba | apply Bb | apply Bc | refine below_set ?_ GE183.out) | exact HB.out))))
 have n7_ := Aside0.mk (Kd.C_below (by repeat (first | (with_reducible exact HR178_2.out) | (with_reducible refine Kd.C_alloc ?_ _) | (with_reducible refine Kd.C_drewN ?_ _) | (with_reducible refine Kd.C_drew ?_) | exact HR178_2.out)) hb)
 have n8_ := Aside0.mk (Kd.C_below (by repeat (first | (with_reducible exact HR179_2.out) | (with_reducible refine Kd.C_alloc ?_ _) | (with_reducible refine Kd.C_drewN ?_ _) | (with_reducible refine Kd.C_drew ?_) | exact HR179_2.out)) hb)
 have n9_ := Aside0.mk (blk_below (g := gb183) (o := .cells #[.int .i64 0, .bool false, .slice none 0 0] 97 (0, 0)) (by (with_reducible repeat (first | refine blk_drewN ?_ _ | refine blk_drew ?_ | refine blk_alloc ?_ _)); exact BK183.out) hb)
 have n10_ := Aside0.mk (below_step (by repeat (first | (with_reducible first | exact HB.out | apply Ba | apply Bb | apply Bc | refine below_set ?_ GE183.out) | exact HB.out)) hb)
 clear HO_8
 clear HO_9
 clear HO_14
 clear HO_16
 clear HL178_2
 clear HL179_2
 clear HR178_2
 clear HR179_2
 clear BK183
 clear HB
 have HO_8 := n0_
 have HO_9 := n1_
 have HO_14 := n2_
 have HO_16 := n3_
 have HL178_2 := n4_
 have HL179_2 := n5_
 have HO182 := n6_
 have HR178_2 := n7_
 have HR179_2 := n8_
 have BK183 := n9_
 have HB := n10_
 clear n0_ n1_ n2_ n3_ n4_ n5_ n6_ n7_ n8_ n9_ n10_
 clear hb ho118
 obtain ⟨Ao119, co119, eo119⟩ := Kd.R_slice HO182.out
 (first | subst eo119 | (injection eo119 with f1_ f2_ f3_; have f4_ := f1_.symm; have f5_ := f3_.symm; clear f1_ f2_ f3_; subst f4_; subst f5_))
 refine hK.out _ _ ⟨HS0_, HS1_, HS2_, HS3_, HS4_, HS5_⟩ (fun hHeld => ?_)
 clear hK K
 refine norm_ (a' := ?_) ?_ ?_
 rotate_left
 {
 show Act.put _ (some 151) _ = _
 simp only [Act.put, Q3, i64_w, i32_w]
 rfl}
 refine pure_ (i := 15) (N := some 152) (v := ?_) (a' := ?_) #[true, true, true, true, true, true, true, true, true, true, true, true, true, true, true, true, true, false] rfl rfl (any_of HT_.out (by kernel_rfl)) (fun _ _ _ h => h) (Or.inl ⟨by rfl, ?_⟩) ?_ ?_
 rotate_left
 {
 intro w'
 go_simp
 with_reducible rfl}
 rotate_left
 {
 simp only [Act.put, Q3, i64_w, i32_w]
 rfl}
 exact norm_ (by simp only [putAll, Act.put, Q3]) (hCont (.slice Ao119 y180.length co119, gb183) _ ⟨hHeld, (by (with_reducible repeat (first | apply Va | apply Vb | apply Vc)); exact Kd.V_mono HL178_2.out (fun _ hk => ⟨hk.2, ⟨hk.1.1.2, ⟨hk.1.1.1.2, ⟨hk.1.1.1.1, hk.1.2⟩⟩⟩⟩)), (by (with_reducible repeat (first | apply Va | apply Vb | apply Vc)); exact Kd.V_mono HL179_2.out (fun _ hk => ⟨hk.2, ⟨hk.1.1.2, ⟨hk.1.1.1.2, ⟨hk.1.1.1.1, hk.1.2⟩⟩⟩⟩)), (by (with_reducible repeat (first | apply Ra | apply Rb | apply Rc)); exact Kd.R_mono HO182.out (fun _ hk => hk.2)), (by (with_reducible repeat (first | apply Kd.N_alloc | apply Kd.N_drewN | apply Kd.N_drew)); exact Kd.N_mono HO_14.out (fun _ hk => ⟨hk.2, ⟨hk.1.1.2, ⟨hk.1.1.1, hk.1.2⟩⟩⟩)), (by (with_reducible repeat (first | apply Kd.N_alloc | apply Kd.N_drewN | apply Kd.N_drew)); exact Kd.N_mono HO_16.out (fun _ hk => ⟨hk.2, ⟨hk.1.1.2.2, ⟨hk.1.1.1, ⟨hk.1.1.2.1, hk.1.2⟩⟩⟩⟩)), (by (with_reducible repeat (first | apply Ra | apply Rb | apply Rc)); exact Kd.R_mono HO_8.out (fun _ hk => hk.2)), (by (with_reducible repeat (first | apply Kd.N_alloc | apply Kd.N_drewN | apply Kd.N_drew)); exact Kd.N_mono HO_9.out (fun _ hk => ⟨hk.2, ⟨hk.1.1.2, ⟨hk.1.1.1, hk.1.2⟩⟩⟩)), (by (with_reducible repeat (first | refine blk_drewN ?_ _ | refine blk_drew ?_ | refine blk_alloc ?_ _)); exact BK183.out), GW183.out, GE183.out, (by repeat (first | (with_reducible first | exact HB.out | apply Ba | apply Bb | apply Bc | refine below_set ?_ GE183.out) | exact HB.out))⟩)}}
 rintro ⟨v181, gb183⟩ w120 ⟨hS_, h0_, h1_, h2_, h3_, h4_, h5_, h6_, h7_, h8_, h9_, h10_⟩
 have n0_ : Aside0 (Kd.V (Kd.int .i64) 3 w120 w.heap.size (fun k_ => some k_ ≠ (v181 : Value).ownBlock ∧ some k_ ≠ (.slice (some ad178) x14_4.length co114 : Value).ownBlock ∧ some k_ ≠ (u16 : Value).ownBlock ∧ some k_ ≠ (v125 : Value).ownBlock ∧ k_ ≠ gb183) (.slice A178_2 ((rd_T97 x14_4 x17_5).f2).length c178_2) ((rd_T97 x14_4 x17_5).f2)) := ⟨h0_⟩
 have n1_ : Aside0 (Kd.V (Kd.int .i64) 3 w120 w.heap.size (fun k_ => some k_ ≠ (v181 : Value).ownBlock ∧ some k_ ≠ (.slice (some ad178) x14_4.length co114 : Value).ownBlock ∧ some k_ ≠ (u16 : Value).ownBlock ∧ some k_ ≠ (v125 : Value).ownBlock ∧ k_ ≠ gb183) (.slice A179_2 ((rd_T97 x14_4 (ji110)).f2).length c179_2) ((rd_T97 x14_4 (ji110)).f2)) := ⟨h1_⟩
 have n2_ : Aside0 (Kd.R (Kd.int .i64) 3 w120 w.heap.size (fun k_ => some k_ ≠ (v125 : Value).ownBlock) v181 y180) := ⟨h2_⟩
 have n3_ : Aside0 (Kd.N k97 97 w120 w.heap.size (fun k_ => some k_ ≠ (v181 : Value).ownBlock ∧ some k_ ≠ (u16 : Value).ownBlock ∧ some k_ ≠ (v125 : Value).ownBlock ∧ k_ ≠ gb183) (.slice (some ad178) x14_4.length co114) x14_4) := ⟨h3_⟩
 have n4_ : Aside0 (Kd.N k97 97 w120 w.heap.size (fun k_ => some k_ ≠ (v181 : Value).ownBlock ∧ some k_ ≠ (.slice (some ad178) x14_4.length co114 : Value).ownBlock ∧ some k_ ≠ (v125 : Value).ownBlock ∧ some k_ ≠ (u9 : Value).ownBlock ∧ k_ ≠ gb183) u16 x16_5) := ⟨h4_⟩
 have n5_ : Aside0 (Kd.R (Kd.int .i64) 3 w120 w.heap.size (fun k_ => some k_ ≠ (v181 : Value).ownBlock) v125 x8_5) := ⟨h5_⟩
 have n6_ : Aside0 (Kd.N k97 97 w120 w.heap.size (fun k_ => some k_ ≠ (v181 : Value).ownBlock ∧ some k_ ≠ (u16 : Value).ownBlock ∧ some k_ ≠ (v125 : Value).ownBlock ∧ k_ ≠ gb183) u9 x9_3) := ⟨h6_⟩
 have n7_ : Aside0 (w120.heap[gb183]? = some (.cells #[.int .i64 0, .bool false, .slice none 0 0] 97 (0, 0))) := ⟨h7_⟩
 have n8_ : Aside0 (w.heap.size ≤ gb183) := ⟨h8_⟩
 have n9_ : Aside0 (w.heap.size ≤ gb183) := ⟨h9_⟩
 have n10_ : Aside0 (Below w.heap.size w w120) := ⟨h10_⟩
 clear HO_8
 clear HO_9
 clear HO_14
 clear HO_16
 clear HB
 clear h0_ h1_ h2_ h3_ h4_ h5_ h6_ h7_ h8_ h9_ h10_
 have HL178_2 := n0_
 have HL179_2 := n1_
 have HO182 := n2_
 have HO_14 := n3_
 have HO_16 := n4_
 have HO_8 := n5_
 have HO_9 := n6_
 have BK183 := n7_
 have GW183 := n8_
 have GE183 := n9_
 have HB := n10_
 clear n0_ n1_ n2_ n3_ n4_ n5_ n6_ n7_ n8_ n9_ n10_
 have hHeld : w120.cell? (ad178.add ((x17_5).toNat * 3)) = some (.int .i64 ((rd_T97 x14_4 x17_5).f0)) ∧ w120.cell? ⟨(ad178.add ((x17_5).toNat * 3)).block, (ad178.add ((x17_5).toNat * 3)).off + 1, none⟩ = some (.bool ((rd_T97 x14_4 x17_5).f1)) ∧ w120.cell? ⟨(ad178.add ((x17_5).toNat * 3)).block, (ad178.add ((x17_5).toNat * 3)).off + 2, none⟩ = some (.slice A178_2 ((rd_T97 x14_4 x17_5).f2).length c178_2) ∧ w120.cell? (ad178.add (((ji110)).toNat * 3)) = some (.int .i64 ((rd_T97 x14_4 (ji110)).f0)) ∧ w120.cell? ⟨(ad178.add (((ji110)).toNat * 3)).block, (ad178.add (((ji110)).toNat * 3)).off + 1, none⟩ = some (.bool ((rd_T97 x14_4 (ji110)).f1)) ∧ w120.cell? ⟨(ad178.add (((ji110)).toNat * 3)).block, (ad178.add (((ji110)).toNat * 3)).off + 2, none⟩ = some (.slice A179_2 ((rd_T97 x14_4 (ji110)).f2).length c179_2) := hS_
 obtain ⟨Ao121, co121, eo121⟩ := Kd.R_slice HO182.out
 (first | subst eo121 | (injection eo121 with f1_ f2_ f3_; have f4_ := f1_.symm; have f5_ := f3_.symm; clear f1_ f2_ f3_; subst f4_; subst f5_))
 refine norm_ (a' := ?_) ?_ ?_
 rotate_left
 {
 simp only [putAll, Act.put, Q3]
 rfl}
 refine one_ (i := 17) (N := none) #[true, true, true, true, true, true, true, true, true, true, true, true, true, true, true, true, true, true] rfl rfl (one_of HT_.out (by kernel_rfl)) (by decide) (fun K hK => ?_)
 have hs122 : w120.cell? ⟨gb183, 0, none⟩ = some (.int .i64 0) := (blk_cell BK183.out 0).trans rfl
 have hfs122 := blk_frozen BK183.out 0
 have hs123 : w120.cell? ⟨gb183, 1, none⟩ = some (.bool false) := (blk_cell BK183.out 1).trans rfl
 have hfs123 := blk_frozen BK183.out 1
 have hs124 : w120.cell? ⟨gb183, 2, none⟩ = some (.slice none 0 0) := (blk_cell BK183.out 2).trans rfl
 have hfs124 := blk_frozen BK183.out 2
 refine skip_ (w1 := ?_) (by rfl) rfl ?_ ?_
 rotate_left
 {
 go_simp
 rfl}
 refine hK.out _ _ ⟨((cell_far (p := ⟨gb183, _, none⟩) (by first | exact Kd.own_blk (Kd.N_away HO_14.out (fun _ hk => hk.2.2.2)) | (rw [add_block]; exact Kd.own_blk (Kd.N_away HO_14.out (fun _ hk => hk.2.2.2))) | (show (Addr.add _ _).block ≠ _; rw [add_block]; exact Kd.own_blk (Kd.N_away HO_14.out (fun _ hk => hk.2.2.2))) | (dsimp only; exact Kd.own_blk (Kd.N_away HO_14.out (fun _ hk => hk.2.2.2)))) _).trans (((cell_far (p := ⟨gb183, _, none⟩) (by first | exact Kd.own_blk (Kd.N_away HO_14.out (fun _ hk => hk.2.2.2)) | (rw [add_block]; exact Kd.own_blk (Kd.N_away HO_14.out (fun _ hk => hk.2.2.2))) | (show (Addr.add _ _).block ≠ _; rw [add_block]; exact Kd.own_blk (Kd.N_away HO_14.out (fun _ hk => hk.2.2.2))) | (dsimp only; exact Kd.own_blk (Kd.N_away HO_14.out (fun _ hk => hk.2.2.2)))) _).trans (((cell_far (p := ⟨gb183, _, none⟩) (by first | exact Kd.own_blk (Kd.N_away HO_14.out (fun _ hk => hk.2.2.2)) | (rw [add_block]; exact Kd.own_blk (Kd.N_away HO_14.out (fun _ hk => hk.2.2.2))) | (show (Addr.add _ _).block ≠ _; rw [add_block]; exact Kd.own_blk (Kd.N_away HO_14.out (fun _ hk => hk.2.2.2))) | (dsimp only; exact Kd.own_blk (Kd.N_away HO_14.out (fun _ hk => hk.2.2.2)))) _).trans (hHeld.1)))))), ((cell_far (p := ⟨gb183, _, none⟩) (by first | exact Kd.own_blk (Kd.N_away HO_14.out (fun _ hk => hk.2.2.2)) | (rw [add_block]; exact Kd.own_blk (Kd.N_away HO_14.out (fun _ hk => hk.2.2.2))) | (show (Addr.add _ _).block ≠ _; rw [add_block]; exact Kd.own_blk (Kd.N_away HO_14.out (fun _ hk => hk.2.2.2))) | (dsimp only; exact Kd.own_blk (Kd.N_away HO_14.out (fun _ hk => hk.2.2.2)))) _).trans (((cell_far (p := ⟨gb183, _, none⟩) (by first | exact Kd.own_blk (Kd.N_away HO_14.out (fun _ hk => hk.2.2.2)) | (rw [add_block]; exact Kd.own_blk (Kd.N_away HO_14.out (fun _ hk => hk.2.2.2))) | (show (Addr.add _ _).block ≠ _; rw [add_block]; exact Kd.own_blk (Kd.N_away HO_14.out (fun _ hk => hk.2.2.2))) | (dsimp only; exact Kd.own_blk (Kd.N_away HO_14.out (fun _ hk => hk.2.2.2)))) _).trans (((cell_far (p := ⟨gb183, _, none⟩) (by first | exact Kd.own_blk (Kd.N_away HO_14.out (fun _ hk => hk.2.2.2)) | (rw [add_block]; exact Kd.own_blk (Kd.N_away HO_14.out (fun _ hk => hk.2.2.2))) | (show (Addr.add _ _).block ≠ _; rw [add_block]; exact Kd.own_blk (Kd.N_away HO_14.out (fun _ hk => hk.2.2.2))) | (dsimp only; exact Kd.own_blk (Kd.N_away HO_14.out (fun _ hk => hk.2.2.2)))) _).trans (hHeld.2.1)))))), ((cell_far (p := ⟨gb183, _, none⟩) (by first | exact Kd.own_blk (Kd.N_away HO_14.out (fun _ hk => hk.2.2.2)) | (rw [add_block]; exact Kd.own_blk (Kd.N_away HO_14.out (fun _ hk => hk.2.2.2))) | (show (Addr.add _ _).block ≠ _; rw [add_block]; exact Kd.own_blk (Kd.N_away HO_14.out (fun _ hk => hk.2.2.2))) | (dsimp only; exact Kd.own_blk (Kd.N_away HO_14.out (fun _ hk => hk.2.2.2)))) _).trans (((cell_far (p := ⟨gb183, _, none⟩) (by first | exact Kd.own_blk (Kd.N_away HO_14.out (fun _ hk => hk.2.2.2)) | (rw [add_block]; exact Kd.own_blk (Kd.N_away HO_14.out (fun _ hk => hk.2.2.2))) | (show (Addr.add _ _).block ≠ _; rw [add_block]; exact Kd.own_blk (Kd.N_away HO_14.out (fun _ hk => hk.2.2.2))) | (dsimp only; exact Kd.own_blk (Kd.N_away HO_14.out (fun _ hk => hk.2.2.2)))) _).trans (((cell_far (p := ⟨gb183, _, none⟩) (by first | exact Kd.own_blk (Kd.N_away HO_14.out (fun _ hk => hk.2.2.2)) | (rw [add_block]; exact Kd.own_blk (Kd.N_away HO_14.out (fun _ hk => hk.2.2.2))) | (show (Addr.add _ _).block ≠ _; rw [add_block]; exact Kd.own_blk (Kd.N_away HO_14.out (fun _ hk => hk.2.2.2))) | (dsimp only; exact Kd.own_blk (Kd.N_away HO_14.out (fun _ hk => hk.2.2.2)))) _).trans (hHeld.2.2.1)))))), ((cell_far (p := ⟨gb183, _, none⟩) (by first | exact Kd.own_blk (Kd.N_away HO_14.out (fun _ hk => hk.2.2.2)) | (rw [add_block]; exact Kd.own_blk (Kd.N_away HO_14.out (fun _ hk => hk.2.2.2))) | (show (Addr.add _ _).block ≠ _; rw [add_block]; exact Kd.own_blk (Kd.N_away HO_14.out (fun _ hk => hk.2.2.2))) | (dsimp only; exact Kd.own_blk (Kd.N_away HO_14.out (fun _ hk => hk.2.2.2)))) _).trans (((cell_far (p := ⟨gb183, _, none⟩) (by first | exact Kd.own_blk (Kd.N_away HO_14.out (fun _ hk => hk.2.2.2)) | (rw [add_block]; exact Kd.own_blk (Kd.N_away HO_14.out (fun _ hk => hk.2.2.2))) | (show (Addr.add _ _).block ≠ _; rw [add_block]; exact Kd.own_blk (Kd.N_away HO_14.out (fun _ hk => hk.2.2.2))) | (dsimp only; exact Kd.own_blk (Kd.N_away HO_14.out (fun _ hk => hk.2.2.2)))) _).trans (((cell_far (p := ⟨gb183, _, none⟩) (by first | exact Kd.own_blk (Kd.N_away HO_14.out (fun _ hk => hk.2.2.2)) | (rw [add_block]; exact Kd.own_blk (Kd.N_away HO_14.out (fun _ hk => hk.2.2.2))) | (show (Addr.add _ _).block ≠ _; rw [add_block]; exact Kd.own_blk (Kd.N_away HO_14.out (fun _ hk => hk.2.2.2))) | (dsimp only; exact Kd.own_blk (Kd.N_away HO_14.out (fun _ hk => hk.2.2.2)))) _).trans (hHeld.2.2.2.1)))))), ((cell_far (p := ⟨gb183, _, none⟩) (by first | exact Kd.own_blk (Kd.N_away HO_14.out (fun _ hk => hk.2.2.2)) | (rw [add_block]; exact Kd.own_blk (Kd.N_away HO_14.out (fun _ hk => hk.2.2.2))) | (show (Addr.add _ _).block ≠ _; rw [add_block]; exact Kd.own_blk (Kd.N_away HO_14.out (fun _ hk => hk.2.2.2))) | (dsimp only; exact Kd.own_blk (Kd.N_away HO_14.out (fun _ hk => hk.2.2.2)))) _).trans (((cell_far (p := ⟨gb183, _, none⟩) (by first | exact Kd.own_blk (Kd.N_away HO_14.out (fun _ hk => hk.2.2.2)) | (rw [add_block]; exact Kd.own_blk (Kd.N_away HO_14.out (fun _ hk => hk.2.2.2))) | (show (Addr.add _ _).block ≠ _; rw [add_block]; exact Kd.own_blk (Kd.N_away HO_14.out (fun _ hk => hk.2.2.2))) | (dsimp only; exact Kd.own_blk (Kd.N_away HO_14.out (fun _ hk => hk.2.2.2)))) _).trans (((cell_far (p := ⟨gb183, _, none⟩) (by first | exact Kd.own_blk (Kd.N_away HO_14.out (fun _ hk => hk.2.2.2)) | (rw [add_block]; exact Kd.own_blk (Kd.N_away HO_14.out (fun _ hk => hk.2.2.2))) | (show (Addr.add _ _).block ≠ _; rw [add_block]; exact Kd.own_blk (Kd.N_away HO_14.out (fun _ hk => hk.2.2.2))) | (dsimp only; exact Kd.own_blk (Kd.N_away HO_14.out (fun _ hk => hk.2.2.2)))) _).trans (hHeld.2.2.2.2.1)))))), ((cell_far (p := ⟨gb183, _, none⟩) (by first | exact Kd.own_blk (Kd.N_away HO_14.out (fun _ hk => hk.2.2.2)) | (rw [add_block]; exact Kd.own_blk (Kd.N_away HO_14.out (fun _ hk => hk.2.2.2))) | (show (Addr.add _ _).block ≠ _; rw [add_block]; exact Kd.own_blk (Kd.N_away HO_14.out (fun _ hk => hk.2.2.2))) | (dsimp only; exact Kd.own_blk (Kd.N_away HO_14.out (fun _ hk => hk.2.2.2)))) _).trans (((cell_far (p := ⟨gb183, _, none⟩) (by first | exact Kd.own_blk (Kd.N_away HO_14.out (fun _ hk => hk.2.2.2)) | (rw [add_block]; exact Kd.own_blk (Kd.N_away HO_14.out (fun _ hk => hk.2.2.2))) | (show (Addr.add _ _).block ≠ _; rw [add_block]; exact Kd.own_blk (Kd.N_away HO_14.out (fun _ hk => hk.2.2.2))) | (dsimp only; exact Kd.own_blk (Kd.N_away HO_14.out (fun _ hk => hk.2.2.2)))) _).trans (((cell_far (p := ⟨gb183, _, none⟩) (by first | exact Kd.own_blk (Kd.N_away HO_14.out (fun _ hk => hk.2.2.2)) | (rw [add_block]; exact Kd.own_blk (Kd.N_away HO_14.out (fun _ hk => hk.2.2.2))) | (show (Addr.add _ _).block ≠ _; rw [add_block]; exact Kd.own_blk (Kd.N_away HO_14.out (fun _ hk => hk.2.2.2))) | (dsimp only; exact Kd.own_blk (Kd.N_away HO_14.out (fun _ hk => hk.2.2.2)))) _).trans (hHeld.2.2.2.2.2))))))⟩ (fun hHeld => ?_)
 clear hK K
 refine done_ (done_of HT_.out (by kernel_rfl)) ?_
 try go_wp2
 go_loopg [19] k5 (fun kq v19 w' => ∃ (x8_6 : List Int) (x19_6 : Int) (x184002_6 : List Int) (u184002 : Value), v19 = .int .i64 x19_6 ∧ Aside0 (vitrineref02_Limit.l5 kq a0 l1 x6_2 x8_6 x9_3 x14_4 x15_4 x16_5 x17_5 x19_6 (wrap64 (((rd_T97 x14_4 x17_5).f0) + ((rd_T97 x14_4 (ji110)).f0))) false x184002_6 = some (r1, r2)) ∧ Aside0 (kq ≤ k5) ∧ Aside0 (Kd.R (Kd.int .i64) 3 w' w.heap.size (fun k_ => some k_ ≠ (u184002 : Value).ownBlock) v125 x8_6) ∧ Aside0 (Kd.N k97 97 w' w.heap.size (fun k_ => some k_ ≠ (v125 : Value).ownBlock ∧ some k_ ≠ (u16 : Value).ownBlock ∧ some k_ ≠ (u184002 : Value).ownBlock ∧ k_ ≠ gb183) u9 x9_3) ∧ Aside0 (Kd.N k97 97 w' w.heap.size (fun k_ => some k_ ≠ (v125 : Value).ownBlock ∧ some k_ ≠ (u16 : Value).ownBlock ∧ some k_ ≠ (u184002 : Value).ownBlock ∧ k_ ≠ gb183) (.slice (some ad178) x14_4.length co114) x14_4) ∧ Aside0 (Kd.N k97 97 w' w.heap.size (fun k_ => some k_ ≠ (v125 : Value).ownBlock ∧ some k_ ≠ (u9 : Value).ownBlock ∧ some k_ ≠ ((.slice (some ad178) x14_4.length co114) : Value).ownBlock ∧ some k_ ≠ (u184002 : Value).ownBlock ∧ k_ ≠ gb183) u16 x16_5) ∧ Aside0 (Kd.R (Kd.int .i64) 3 w' w.heap.size (fun k_ => some k_ ≠ (v125 : Value).ownBlock) u184002 x184002_6) ∧ Aside0 (w'.heap[gb183]? = some (.cells #[.int .i64 (wrap64 (((rd_T97 x14_4 x17_5).f0) + ((rd_T97 x14_4 (ji110)).f0))), .bool false, u184002] 97 (0, 0))) ∧ Aside0 (Below w.heap.size w w'))
 case atStart => exact ⟨(x8_5), (0), (y180), (.slice Ao121 y180.length co121), (by first | rfl | (simp; done) | (simp [*]; done)), H', ⟨Nat.le_refl _⟩, ⟨by (with_reducible repeat (first | apply Ra | apply Rb | apply Rc)); exact Kd.R_mono (Kd.R_far (p := ⟨gb183, 2, none⟩) (Kd.R_far (p := ⟨gb183, 1, none⟩) (Kd.R_far (p := ⟨gb183, 0, none⟩) (Kd.R_types HO_8.out BK183.out (by decide)) (fun _ hk => hk.2) (.int .i64 (wrap64 (((rd_T97 x14_4 x17_5).f0) + ((rd_T97 x14_4 (ji110)).f0))))) (fun _ hk => hk.2) (.bool false)) (fun _ hk => hk.2) (.slice Ao121 y180.length co121)) (fun _ hk => hk.1)⟩, ⟨by (with_reducible repeat (first | apply Kd.N_alloc | apply Kd.N_drewN | apply Kd.N_drew)); exact Kd.N_mono (Kd.N_far (p := ⟨gb183, 2, none⟩) (Kd.N_far (p := ⟨gb183, 1, none⟩) (Kd.N_far (p := ⟨gb183, 0, none⟩) (Kd.N_mono HO_9.out (fun k_ hk => (⟨hk, hk.2.2.2⟩ : _ ∧ k_ ≠ gb183))) (fun _ hk => hk.2) (.int .i64 (wrap64 (((rd_T97 x14_4 x17_5).f0) + ((rd_T97 x14_4 (ji110)).f0))))) (fun _ hk => hk.2) (.bool false)) (fun _ hk => hk.2) (.slice Ao121 y180.length co121)) (fun _ hk => ⟨hk.1.2.2.1, ⟨hk.1.2.1, ⟨hk.1.1, hk.1.2.2.2⟩⟩⟩)⟩, ⟨by (with_reducible repeat (first | apply Kd.N_alloc | apply Kd.N_drewN | apply Kd.N_drew)); exact Kd.N_mono (Kd.N_far (p := ⟨gb183, 2, none⟩) (Kd.N_far (p := ⟨gb183, 1, none⟩) (Kd.N_far (p := ⟨gb183, 0, none⟩) (Kd.N_mono HO_14.out (fun k_ hk => (⟨hk, hk.2.2.2⟩ : _ ∧ k_ ≠ gb183))) (fun _ hk => hk.2) (.int .i64 (wrap64 (((rd_T97 x14_4 x17_5).f0) + ((rd_T97 x14_4 (ji110)).f0))))) (fun _ hk => hk.2) (.bool false)) (fun _ hk => hk.2) (.slice Ao121 y180.length co121)) (fun _ hk => ⟨hk.1.2.2.1, ⟨hk.1.2.1, ⟨hk.1.1, hk.1.2.2.2⟩⟩⟩)⟩, ⟨by (with_reducible repeat (first | apply Kd.N_alloc | apply Kd.N_drewN | apply Kd.N_drew)); exact Kd.N_mono (Kd.N_far (p := ⟨gb183, 2, none⟩) (Kd.N_far (p := ⟨gb183, 1, none⟩) (Kd.N_far (p := ⟨gb183, 0, none⟩) (Kd.N_mono HO_16.out (fun k_ hk => (⟨hk, hk.2.2.2.2⟩ : _ ∧ k_ ≠ gb183))) (fun _ hk => hk.2) (.int .i64 (wrap64 (((rd_T97 x14_4 x17_5).f0) + ((rd_T97 x14_4 (ji110)).f0))))) (fun _ hk => hk.2) (.bool false)) (fun _ hk => hk.2) (.slice Ao121 y180.length co121)) (fun _ hk => ⟨hk.1.2.2.1, ⟨hk.1.2.2.2.1, ⟨hk.1.2.1, ⟨hk.1.1, hk.1.2.2.2.2⟩⟩⟩⟩)⟩, ⟨by (with_reducible repeat (first | apply Ra | apply Rb | apply Rc)); exact Kd.R_mono (Kd.R_far (p := ⟨gb183, 2, none⟩) (Kd.R_far (p := ⟨gb183, 1, none⟩) (Kd.R_far (p := ⟨gb183, 0, none⟩) (Kd.R_types HO182.out BK183.out (by decide)) (fun _ hk => hk.2) (.int .i64 (wrap64 (((rd_T97 x14_4 x17_5).f0) + ((rd_T97 x14_4 (ji110)).f0))))) (fun _ hk => hk.2) (.bool false)) (fun _ hk => hk.2) (.slice Ao121 y180.length co121)) (fun _ hk => hk.1)⟩, ⟨by (with_reducible repeat (first | refine blk_drewN ?_ _ | refine blk_drew ?_ | refine blk_alloc ?_ _)); refine blk_put (cs := #[.int .i64 (wrap64 (((rd_T97 x14_4 x17_5).f0) + ((rd_T97 x14_4 (ji110)).f0))), .bool false, .slice none 0 0]) ?_ 2 _ rfl; (with_reducible repeat (first | refine blk_drewN ?_ _ | refine blk_drew ?_ | refine blk_alloc ?_ _)); refine blk_put (cs := #[.int .i64 (wrap64 (((rd_T97 x14_4 x17_5).f0) + ((rd_T97 x14_4 (ji110)).f0))), .bool false, .slice none 0 0]) ?_ 1 _ rfl; (with_reducible repeat (first | refine blk_drewN ?_ _ | refine blk_drew ?_ | refine blk_alloc ?_ _)); refine blk_put (cs := #[.int .i64 0, .bool false, .slice none 0 0]) ?_ 0 _ rfl; (with_reducible repeat (first | refine blk_drewN ?_ _ | refine blk_drew ?_ | refine blk_alloc ?_ _)); exact BK183.out⟩, ⟨by repeat (first | (with_reducible first | exact HB.out | apply Ba | apply Bb | apply Bc | refine below_set ?_ GE183.out) | exact HB.out)⟩⟩
 case round => (as_aux_lemma => (
 clear H'
 try clear c1
 try clear p1
 try clear q1
 try clear hx1
 try clear p2
 try clear p5
 try clear q5
 try clear hx5
 try clear p6
 try clear q6
 try clear c7
 try clear q7
 try clear c8
 try clear p8
 try clear q8
 try clear hx8
 try clear hf8
 try clear c9
 try clear q9
 try clear c10
 try clear q10
 try clear c11
 try clear p13
 try clear q13
 try clear hx13
 try clear c17
 try clear p17
 try clear q17
 try clear hx17
 try clear p58
 try clear q58
 try clear hx58
 try clear q61
 try clear p64
 try clear q65
 try clear q71
 try clear c75
 try clear q75
 try clear c77
 try clear c77b0
 try clear c77b1
 try clear c78
 try clear c78b0
 try clear c78b1
 try clear c79
 try clear c80
 try clear c81
 try clear c81b0
 try clear c82
 try clear c82b0
 try clear c83
 try clear c84
 try clear c84b0
 try clear c84b1
 try clear c85
 try clear c85b0
 try clear c86
 try clear c86b0
 try clear p87
 try clear q87
 try clear hx87
 try clear hf87
 try clear q90
 try clear c94
 try clear q94
 try clear q100
 try clear c104
 try clear q104
 try clear c106
 try clear c106b0
 try clear c107
 try clear c107b0
 try clear c108
 try clear c108b0
 try clear c109
 try clear c109b0
 try clear c111
 try clear c111b0
 try clear c112
 try clear c112b0
 try clear c112b1
 try clear c113
 try clear c113b0
 try clear c113b1
 try clear hcz102_0
 try clear hcz102_1
 try clear hcz102_2
 try clear hcz63_0
 try clear hcz63_1
 try clear hcz63_2
 try clear hcz73_0
 try clear hcz73_1
 try clear hcz73_2
 try clear hcz92_0
 try clear hcz92_1
 try clear hcz92_2
 try clear hfz102_0
 try clear hfz102_1
 try clear hfz102_2
 try clear hfz63_0
 try clear hfz63_1
 try clear hfz63_2
 try clear hfz73_0
 try clear hfz73_1
 try clear hfz73_2
 try clear hfz92_0
 try clear hfz92_1
 try clear hfz92_2
 try clear hx134_0
 try clear hx134_1
 try clear hx134_2
 try clear hx178_0
 try clear hx178_1
 try clear hx178_2
 try clear hx179_0
 try clear hx179_1
 try clear hx179_2
 try clear hx58_0
 try clear hx87_0
 try clear p1
 try clear p13
 try clear p134
 try clear p178
 try clear p179
 try clear p2
 try clear p5
 try clear p58
 try clear p6
 try clear p64
 try clear p8
 try clear p87
 try clear q0104
 try clear q065
 try clear q075
 try clear q094
 try clear q1
 try clear q10
 try clear q100
 try clear q104
 try clear q13
 try clear q134
 try clear q178
 try clear q179
 try clear q5
 try clear q58
 try clear q6
 try clear q61
 try clear q65
 try clear q7
 try clear q71
 try clear q75
 try clear q8
 try clear q87
 try clear q9
 try clear q90
 try clear q94
 obtain ⟨x8_6, x19_6, x184002_6, u184002, rfl, HA, HK6, HO_8, HO_9, HO_14, HO_16, HO_184002, BK183, HB⟩ := hrel
 cases gk with
 | zero => exact absurd HA.out (by simp [vitrineref02_Limit.l5])
 | succ k6 => (
 have H := HA.out
 clear HA
 simp only [vitrineref02_Limit.l5] at H
 by_cases c125 : x19_6 < (l1.length : Int)
 {
 rw [if_pos c125] at H
 have c125b0 : decide (x19_6 < (l1.length : Int)) = true := decide_eq_true c125
 clear c125
 by_cases c126 : 0 ≤ x17_5
 {
 rw [if_pos c126] at H
 have c126b0 : decide (0 ≤ x17_5) = true := decide_eq_true c126
 clear c126
 by_cases c127 : x17_5 < (x14_4.length : Int)
 {
 rw [if_pos c127] at H
 have c127b0 : decide (x17_5 < (x14_4.length : Int)) = true := decide_eq_true c127
 clear c127
 by_cases c128 : 0 ≤ x19_6
 {
 rw [if_pos c128] at H
 have c128b0 : decide (0 ≤ x19_6) = true := decide_eq_true c128
 clear c128
 by_cases c129 : x19_6 < (((rd_T97 x14_4 x17_5).f2).length : Int)
 {
 rw [if_pos c129] at H
 have c129b0 : decide (x19_6 < (((rd_T97 x14_4 x17_5).f2).length : Int)) = true := decide_eq_true c129
 clear c129
 replace H : (if 0 ≤ (ji110) then (if (ji110) < (x14_4.length : Int) then (if x19_6 < (((rd_T97 x14_4 (ji110)).f2).length : Int) then (if x19_6 < (x184002_6.length : Int) then (vitrineref02_Limit.l5 k6 a0 l1 x6_2 x8_6 x9_3 x14_4 x15_4 x16_5 x17_5 (wrap64 (x19_6 + 1)) (wrap64 (((rd_T97 x14_4 x17_5).f0) + ((rd_T97 x14_4 (ji110)).f0))) false (x184002_6.set (x19_6 : Int).toNat (wrap64 ((rd ((rd_T97 x14_4 x17_5).f2) x19_6) + (rd ((rd_T97 x14_4 (ji110)).f2) x19_6))))) else (none)) else (none)) else (none)) else (none)) = some (r1, r2) := by first | (rw [hji110] at H; exact H) | (simp only [hji110] at H ⊢; exact H)
 (try rw [hji110] at c107b0)
 by_cases c131 : 0 ≤ (ji110)
 {
 rw [if_pos c131] at H
 have c131b0 : decide (0 ≤ (ji110)) = true := decide_eq_true c131
 clear c131
 by_cases c132 : (ji110) < (x14_4.length : Int)
 {
 rw [if_pos c132] at H
 have c132b0 : decide ((ji110) < (x14_4.length : Int)) = true := decide_eq_true c132
 clear c132
 by_cases c133 : x19_6 < (((rd_T97 x14_4 (ji110)).f2).length : Int)
 {
 rw [if_pos c133] at H
 have c133b0 : decide (x19_6 < (((rd_T97 x14_4 (ji110)).f2).length : Int)) = true := decide_eq_true c133
 clear c133
 by_cases c134 : x19_6 < (x184002_6.length : Int)
 {
 rw [if_pos c134] at H
 have c134b0 : decide (x19_6 < (x184002_6.length : Int)) = true := decide_eq_true c134
 clear c134
 obtain ⟨y188, hy188⟩ : ∃ y_ : List Int, y_ = (x184002_6.set (x19_6 : Int).toNat (wrap64 ((rd ((rd_T97 x14_4 x17_5).f2) x19_6) + (rd ((rd_T97 x14_4 (ji110)).f2) x19_6)))) := ⟨_, rfl⟩
 replace H : (vitrineref02_Limit.l5 k6 a0 l1 x6_2 x8_6 x9_3 x14_4 x15_4 x16_5 x17_5 (wrap64 (x19_6 + 1)) (wrap64 (((rd_T97 x14_4 x17_5).f0) + ((rd_T97 x14_4 (ji110)).f0))) false y188) = some (r1, r2) := by first | (rw [hy188]; with_reducible exact H) | (have H2_ := (Option.bind_some _ _).symm.trans H; rw [hy188]; with_reducible exact H2_) | (have H2_ := (Option.bind_some _ _).symm.trans H; with_reducible exact H2_) | with_reducible exact H | (rw [hy188]; exact H) | exact H
 have Ny188 := Aside0.mk hy188
 clear hy188
 have H' := Aside0.mk H
 clear H
 try go_wp2
 have n0_ := Aside0.mk (Rc HO_8.out)
 have n1_ := Aside0.mk (Kd.N_drew HO_9.out)
 have n2_ := Aside0.mk (Kd.N_drew HO_14.out)
 have n3_ := Aside0.mk (Kd.N_drew HO_16.out)
 have n4_ := Aside0.mk (Rc HO_184002.out)
 have n5_ := Aside0.mk (blk_drew BK183.out)
 have n6_ := Aside0.mk (Bc HB.out)
 clear HO_8
 clear HO_9
 clear HO_14
 clear HO_16
 clear HO_184002
 clear BK183
 clear HB
 have HO_8 := n0_
 have HO_9 := n1_
 have HO_14 := n2_
 have HO_16 := n3_
 have HO_184002 := n4_
 have BK183 := n5_
 have HB := n6_
 clear n0_ n1_ n2_ n3_ n4_ n5_ n6_
 have p184 : 0 ≤ (x17_5 : Int) := Od (by first | (with_reducible assumption) | assumption)
 have q184 : x17_5 < (x14_4.length : Int) := Od (by first | (with_reducible assumption) | assumption)
 obtain ⟨ad184, A184_2, c184_2, e184, hx184_0, hx184_1, hx184_2, hl184_2, hi184_2⟩ := at_T97 (Kd.N_reads' HO_14.out).2.2 x17_5 p184 q184
 obtain rfl : ad178 = ad184 := (by injection e184)
 obtain ⟨ce184, hce184, hMe184, hcc184⟩ := Kd.N_get HO_14.out z97 x17_5 p184 (by first | exact q184 | exact Od (by first | (with_reducible assumption) | assumption) | (have e_ := (Kd.N_reads' HO_14.out).1; omega))
 obtain ⟨ua184_2, uc184_2, rfl, ul184_2, ge184_2⟩ := k97_openF hMe184
 have hv184_2 := hcc184 2 _ rfl
 rw [add_field _ _ 2 (by omega)] at hv184_2
 replace hv184_2 := Option.some.inj (hv184_2.symm.trans hx184_2)
 injection hv184_2 with hva_ hvn_ hvc_
 rw [hva_] at ge184_2
 rw [hvc_] at ul184_2
 have HL184_2 := Aside0.mk (show Kd.V (Kd.int .i64) 3 _ w.heap.size _ _ ((rd_T97 x14_4 x17_5).f2) from Kd.V_mk ul184_2 ge184_2)
 clear hva_ hvn_ hvc_ ge184_2 ul184_2
 clear hcc184 hce184
 have HR184_2 := Aside0.mk hi184_2
 have HC184_2 := Aside0.mk hl184_2
 clear hi184_2 hl184_2
 replace p184 := eq_true p184
 replace q184 := eq_true q184
 have p185 : 0 ≤ (x19_6 : Int) := Od (by first | (with_reducible assumption) | assumption)
 have q185 : x19_6 < (((rd_T97 x14_4 x17_5).f2).length : Int) := Od (by first | (with_reducible assumption) | assumption)
 obtain ⟨ad185, e185, hx185_0⟩ := Kd.at_int (by repeat (first | (with_reducible exact HR184_2.out) | (with_reducible refine Kd.C_alloc ?_ _) | (with_reducible refine Kd.C_drewN ?_ _) | (with_reducible refine Kd.C_drew ?_) | exact HR184_2.out)) x19_6 p185 q185
 cases e185
 replace p185 := eq_true p185
 replace q185 := eq_true q185
 have p186 : 0 ≤ ((ji110) : Int) := Od (by first | (with_reducible assumption) | assumption)
 have q186 : (ji110) < (x14_4.length : Int) := Od (by first | (with_reducible assumption) | assumption)
 obtain ⟨ad186, A186_2, c186_2, e186, hx186_0, hx186_1, hx186_2, hl186_2, hi186_2⟩ := at_T97 (Kd.N_reads' HO_14.out).2.2 (ji110) p186 q186
 obtain rfl : ad178 = ad186 := (by injection e186)
 obtain ⟨ce186, hce186, hMe186, hcc186⟩ := Kd.N_get HO_14.out z97 (ji110) p186 (by first | exact q186 | exact Od (by first | (with_reducible assumption) | assumption) | (have e_ := (Kd.N_reads' HO_14.out).1; omega))
 obtain ⟨ua186_2, uc186_2, rfl, ul186_2, ge186_2⟩ := k97_openF hMe186
 have hv186_2 := hcc186 2 _ rfl
 rw [add_field _ _ 2 (by omega)] at hv186_2
 replace hv186_2 := Option.some.inj (hv186_2.symm.trans hx186_2)
 injection hv186_2 with hva_ hvn_ hvc_
 rw [hva_] at ge186_2
 rw [hvc_] at ul186_2
 have HL186_2 := Aside0.mk (show Kd.V (Kd.int .i64) 3 _ w.heap.size _ _ ((rd_T97 x14_4 (ji110)).f2) from Kd.V_mk ul186_2 ge186_2)
 clear hva_ hvn_ hvc_ ge186_2 ul186_2
 clear hcc186 hce186
 have HR186_2 := Aside0.mk hi186_2
 have HC186_2 := Aside0.mk hl186_2
 clear hi186_2 hl186_2
 replace p186 := eq_true p186
 replace q186 := eq_true q186
 have p187 : 0 ≤ (x19_6 : Int) := Od (by first | (with_reducible assumption) | assumption)
 have q187 : x19_6 < (((rd_T97 x14_4 (ji110)).f2).length : Int) := Od (by first | (with_reducible assumption) | assumption)
 obtain ⟨ad187, e187, hx187_0⟩ := Kd.at_int (by repeat (first | (with_reducible exact HR186_2.out) | (with_reducible refine Kd.C_alloc ?_ _) | (with_reducible refine Kd.C_drewN ?_ _) | (with_reducible refine Kd.C_drew ?_) | exact HR186_2.out)) x19_6 p187 q187
 cases e187
 replace p187 := eq_true p187
 replace q187 := eq_true q187
 have p135 : 0 ≤ (x19_6 : Int) := Od (by first | (with_reducible assumption) | assumption)
 have q135 : (x19_6 : Int) < ((x184002_6.length : Int) : Int) := Od (by first | (with_reducible assumption) | assumption)
 obtain ⟨go135, co135, eo135, gb135, gl135, cl135, HG135⟩ := Kd.R_form HO_184002.out (by omega)
 (first | cases eo135 | (injection eo135 with ea_ en_ ec_; (first | subst ea_ | (injection ea_ with ea_; subst ea_)); subst ec_; clear en_))
 have GB135 := Aside0.mk gb135
 have GG135 := Aside0.mk HG135
 clear gb135 gl135 HG135
 obtain ⟨hx135_0, hf135_0⟩ := Kd.R_celln 0 HO_184002.out (x19_6 : Int) p135 q135
 replace p135 := eq_true p135
 replace q135 := eq_true q135
 have HP137 := Kd.R_putn HO_184002.out (x19_6 : Int) (wrap64 ((rd ((rd_T97 x14_4 x17_5).f2) x19_6) + (rd ((rd_T97 x14_4 (ji110)).f2) x19_6)))
 rw [← Ny188.out] at HP137
 have HQ137 := Aside0.mk HP137
 clear HP137
 refine start_ (n := 23) (S := fun w' => w'.cell? ⟨gb183, 0, none⟩ = some (.int .i64 (wrap64 (((rd_T97 x14_4 x17_5).f0) + ((rd_T97 x14_4 (ji110)).f0)))) ∧ w'.cell? ⟨gb183, 1, none⟩ = some (.bool false) ∧ w'.cell? ⟨gb183, 2, none⟩ = some (.slice (some ⟨go135, 0, none⟩) x184002_6.length co135) ∧ w'.cell? (ad178.add ((x17_5).toNat * 3)) = some (.int .i64 ((rd_T97 x14_4 x17_5).f0)) ∧ w'.cell? ⟨(ad178.add ((x17_5).toNat * 3)).block, (ad178.add ((x17_5).toNat * 3)).off + 1, none⟩ = some (.bool ((rd_T97 x14_4 x17_5).f1)) ∧ w'.cell? ⟨(ad178.add ((x17_5).toNat * 3)).block, (ad178.add ((x17_5).toNat * 3)).off + 2, none⟩ = some (.slice (some ad185) ((rd_T97 x14_4 x17_5).f2).length c184_2) ∧ w'.cell? (ad185.add (x19_6).toNat) = some (.int .i64 (rd ((rd_T97 x14_4 x17_5).f2) x19_6)) ∧ w'.cell? (ad178.add (((ji110)).toNat * 3)) = some (.int .i64 ((rd_T97 x14_4 (ji110)).f0)) ∧ w'.cell? ⟨(ad178.add (((ji110)).toNat * 3)).block, (ad178.add (((ji110)).toNat * 3)).off + 1, none⟩ = some (.bool ((rd_T97 x14_4 (ji110)).f1)) ∧ w'.cell? ⟨(ad178.add (((ji110)).toNat * 3)).block, (ad178.add (((ji110)).toNat * 3)).off + 2, none⟩ = some (.slice (some ad187) ((rd_T97 x14_4 (ji110)).f2).length c186_2) ∧ w'.cell? (ad187.add (x19_6).toNat) = some (.int .i64 (rd ((rd_T97 x14_4 (ji110)).f2) x19_6))) (ds := [22]) #[false, false, false, false, false, false, false, false, false, false, false, false, false, false, false, false, false, false, false, false, false, false, false] (by kernel_rfl) rfl rfl ⟨(blk_cell BK183.out 0).trans rfl, (blk_cell BK183.out 1).trans rfl, (blk_cell BK183.out 2).trans rfl, hx184_0, hx184_1, hx184_2, hx185_0, hx186_0, hx186_1, hx186_2, hx187_0⟩ (fun hHeld => ?_); refine with_tabW vitrineref02_Limit.tab43 vitrineref02_Limit.bits43 (fun HT_ HW_ => ?_)
 generalize wr.drew = w136 at HO_8 HO_9 HO_14 HO_16 HO_184002 BK183 HB GG135 HL184_2 HL186_2 HQ137 HR184_2 HR186_2 hf135_0 hx135_0 hx184_0 hx184_1 hx184_2 hx185_0 hx186_0 hx186_1 hx186_2 hx187_0 hHeld ⊢
 refine pure_ (i := 0) (N := some 159) (v := ?_) (a' := ?_) #[true, false, false, false, false, false, false, false, false, false, false, false, false, false, false, false, false, false, false, false, false, false, false] rfl rfl (any_of HT_.out (by kernel_rfl)) (fun _ _ _ h => h) (Or.inl ⟨by rfl, ?_⟩) ?_ ?_
 rotate_left
 {
 intro w'
 go_simp
 with_reducible rfl}
 rotate_left
 {
 simp only [Act.put, Q3, i64_w, i32_w]
 rfl}
 refine pure_ (i := 2) (N := some 161) (v := ?_) (a' := ?_) #[true, false, true, false, false, false, false, false, false, false, false, false, false, false, false, false, false, false, false, false, false, false, false] rfl rfl (any_of HT_.out (by kernel_rfl)) (fun _ _ _ h => h) (Or.inl ⟨by rfl, ?_⟩) ?_ ?_
 rotate_left
 {
 intro w'
 go_simp
 with_reducible rfl}
 rotate_left
 {
 simp only [Act.put, Q3, i64_w, i32_w]
 rfl}
 refine pure_ (i := 3) (N := some 162) (v := ?_) (a' := ?_) #[true, false, true, true, false, false, false, false, false, false, false, false, false, false, false, false, false, false, false, false, false, false, false] rfl rfl (any_of HT_.out (by kernel_rfl)) (fun _ _ _ h => h) (Or.inl ⟨by rfl, ?_⟩) ?_ ?_
 rotate_left
 {
 intro w'
 go_simp
 with_reducible rfl}
 rotate_left
 {
 simp only [Act.put, Q3, i64_w, i32_w]
 rfl}
 refine pure_ (i := 4) (N := some 163) (v := ?_) (a' := ?_) #[true, false, true, true, true, false, false, false, false, false, false, false, false, false, false, false, false, false, false, false, false, false, false] rfl rfl (any_of HT_.out (by kernel_rfl)) (fun _ _ _ h => h) (Or.inl ⟨by rfl, ?_⟩) ?_ ?_
 rotate_left
 {
 intro w'
 go_simp
 with_reducible rfl}
 rotate_left
 {
 simp only [Act.put, Q3, i64_w, i32_w]
 rfl}
 refine pure_ (i := 5) (N := some 164) (v := ?_) (a' := ?_) #[true, false, true, true, true, true, false, false, false, false, false, false, false, false, false, false, false, false, false, false, false, false, false] rfl rfl (any_of HT_.out (by kernel_rfl)) (fun _ _ _ h => h) (Or.inl ⟨by rfl, ?_⟩) ?_ ?_
 rotate_left
 {
 intro w'
 go_simp
 with_reducible rfl}
 rotate_left
 {
 simp only [Act.put, Q3, i64_w, i32_w]
 rfl}
 refine pure_ (i := 6) (N := some 165) (v := ?_) (a' := ?_) #[true, false, true, true, true, true, true, false, false, false, false, false, false, false, false, false, false, false, false, false, false, false, false] rfl rfl (any_of HT_.out (by kernel_rfl)) (fun _ _ _ h => h) (Or.inl ⟨by rfl, ?_⟩) ?_ ?_
 rotate_left
 {
 intro w'
 go_simp
 with_reducible rfl}
 rotate_left
 {
 simp only [Act.put, Q3, i64_w, i32_w]
 rfl}
 refine pure_ (i := 8) (N := some 167) (v := ?_) (a' := ?_) #[true, false, true, true, true, true, true, false, true, false, false, false, false, false, false, false, false, false, false, false, false, false, false] rfl rfl (any_of HT_.out (by kernel_rfl)) (fun _ _ _ h => h) (Or.inl ⟨by rfl, ?_⟩) ?_ ?_
 rotate_left
 {
 intro w'
 go_simp
 with_reducible rfl}
 rotate_left
 {
 simp only [Act.put, Q3, i64_w, i32_w]
 rfl}
 refine pure_ (i := 11) (N := some 170) (v := ?_) (a' := ?_) #[true, false, true, true, true, true, true, false, true, false, false, true, false, false, false, false, false, false, false, false, false, false, false] rfl rfl (any_of HT_.out (by kernel_rfl)) (fun _ _ _ h => h) (Or.inl ⟨by rfl, ?_⟩) ?_ ?_
 rotate_left
 {
 intro w'
 go_simp
 with_reducible rfl}
 rotate_left
 {
 simp only [Act.put, Q3, i64_w, i32_w]
 rfl}
 refine pure_ (i := 12) (N := some 171) (v := ?_) (a' := ?_) #[true, false, true, true, true, true, true, false, true, false, false, true, true, false, false, false, false, false, false, false, false, false, false] rfl rfl (any_of HT_.out (by kernel_rfl)) (fun _ _ _ h => h) (Or.inl ⟨by rfl, ?_⟩) ?_ ?_
 rotate_left
 {
 intro w'
 go_simp
 with_reducible rfl}
 rotate_left
 {
 simp only [Act.put, Q3, i64_w, i32_w]
 rfl}
 refine pure_ (i := 13) (N := some 172) (v := ?_) (a' := ?_) #[true, false, true, true, true, true, true, false, true, false, false, true, true, true, false, false, false, false, false, false, false, false, false] rfl rfl (any_of HT_.out (by kernel_rfl)) (fun _ _ _ h => h) (Or.inl ⟨by rfl, ?_⟩) ?_ ?_
 rotate_left
 {
 intro w'
 go_simp
 with_reducible rfl}
 rotate_left
 {
 simp only [Act.put, Q3, i64_w, i32_w]
 rfl}
 refine pure_ (i := 14) (N := some 173) (v := ?_) (a' := ?_) #[true, false, true, true, true, true, true, false, true, false, false, true, true, true, true, false, false, false, false, false, false, false, false] rfl rfl (any_of HT_.out (by kernel_rfl)) (fun _ _ _ h => h) (Or.inl ⟨by rfl, ?_⟩) ?_ ?_
 rotate_left
 {
 intro w'
 go_simp
 with_reducible rfl}
 rotate_left
 {
 simp only [Act.put, Q3, i64_w, i32_w]
 rfl}
 refine pure_ (i := 15) (N := some 174) (v := ?_) (a' := ?_) #[true, false, true, true, true, true, true, false, true, false, false, true, true, true, true, true, false, false, false, false, false, false, false] rfl rfl (any_of HT_.out (by kernel_rfl)) (fun _ _ _ h => h) (Or.inl ⟨by rfl, ?_⟩) ?_ ?_
 rotate_left
 {
 intro w'
 go_simp
 with_reducible rfl}
 rotate_left
 {
 simp only [Act.put, Q3, i64_w, i32_w]
 rfl}
 refine pure_ (i := 17) (N := some 176) (v := ?_) (a' := ?_) #[true, false, true, true, true, true, true, false, true, false, false, true, true, true, true, true, false, true, false, false, false, false, false] rfl rfl (any_of HT_.out (by kernel_rfl)) (fun _ _ _ h => h) (Or.inl ⟨by rfl, ?_⟩) ?_ ?_
 rotate_left
 {
 intro w'
 go_simp
 with_reducible rfl}
 rotate_left
 {
 simp only [Act.put, Q3, i64_w, i32_w]
 rfl}
 refine take_ (i := 1) (N := some 160) (v := ?_) (a' := ?_) #[true, true, true, true, true, true, true, false, true, false, false, true, true, true, true, true, false, true, false, false, false, false, false] rfl rfl (take_ofW HT_.out HW_.out (by kernel_rfl)) (fun _ _ _ h => h) (Or.inl ⟨by rfl, ?_⟩) hHeld ?_ ?_
 rotate_left
 {
 rintro w' ⟨s0, s1, s2, s3, s4, s5, s6, s7, s8, s9, s10⟩
 go_simp
 with_reducible rfl}
 rotate_left
 {
 simp only [Act.put, Q3, i64_w, i32_w]
 rfl}
 refine take_ (i := 7) (N := some 166) (v := ?_) (a' := ?_) #[true, true, true, true, true, true, true, true, true, false, false, true, true, true, true, true, false, true, false, false, false, false, false] rfl rfl (take_ofW HT_.out HW_.out (by kernel_rfl)) (fun _ _ _ h => h) (Or.inl ⟨by rfl, ?_⟩) hHeld ?_ ?_
 rotate_left
 {
 rintro w' ⟨s0, s1, s2, s3, s4, s5, s6, s7, s8, s9, s10⟩
 go_simp
 with_reducible rfl}
 rotate_left
 {
 simp only [Act.put, Q3, i64_w, i32_w]
 rfl}
 refine pure_ (i := 9) (N := some 168) (v := ?_) (a' := ?_) #[true, true, true, true, true, true, true, true, true, true, false, true, true, true, true, true, false, true, false, false, false, false, false] rfl rfl (any_of HT_.out (by kernel_rfl)) (fun _ _ _ h => h) (Or.inl ⟨by rfl, ?_⟩) ?_ ?_
 rotate_left
 {
 intro w'
 go_simp
 with_reducible rfl}
 rotate_left
 {
 simp only [Act.put, Q3, i64_w, i32_w]
 rfl}
 refine take_ (i := 10) (N := some 169) (v := ?_) (a' := ?_) #[true, true, true, true, true, true, true, true, true, true, true, true, true, true, true, true, false, true, false, false, false, false, false] rfl rfl (take_ofW HT_.out HW_.out (by kernel_rfl)) (fun _ _ _ h => h) (Or.inl ⟨by rfl, ?_⟩) hHeld ?_ ?_
 rotate_left
 {
 rintro w' ⟨s0, s1, s2, s3, s4, s5, s6, s7, s8, s9, s10⟩
 go_simp
 with_reducible rfl}
 rotate_left
 {
 simp only [Act.put, Q3, i64_w, i32_w]
 rfl}
 refine take_ (i := 16) (N := some 175) (v := ?_) (a' := ?_) #[true, true, true, true, true, true, true, true, true, true, true, true, true, true, true, true, true, true, false, false, false, false, false] rfl rfl (take_ofW HT_.out HW_.out (by kernel_rfl)) (fun _ _ _ h => h) (Or.inl ⟨by rfl, ?_⟩) hHeld ?_ ?_
 rotate_left
 {
 rintro w' ⟨s0, s1, s2, s3, s4, s5, s6, s7, s8, s9, s10⟩
 go_simp
 with_reducible rfl}
 rotate_left
 {
 simp only [Act.put, Q3, i64_w, i32_w]
 rfl}
 refine pure_ (i := 18) (N := some 177) (v := ?_) (a' := ?_) #[true, true, true, true, true, true, true, true, true, true, true, true, true, true, true, true, true, true, true, false, false, false, false] rfl rfl (any_of HT_.out (by kernel_rfl)) (fun _ _ _ h => h) (Or.inl ⟨by rfl, ?_⟩) ?_ ?_
 rotate_left
 {
 intro w'
 go_simp
 with_reducible rfl}
 rotate_left
 {
 simp only [Act.put, Q3, i64_w, i32_w]
 rfl}
 refine take_ (i := 19) (N := some 178) (v := ?_) (a' := ?_) #[true, true, true, true, true, true, true, true, true, true, true, true, true, true, true, true, true, true, true, true, false, false, false] rfl rfl (take_ofW HT_.out HW_.out (by kernel_rfl)) (fun _ _ _ h => h) (Or.inl ⟨by rfl, ?_⟩) hHeld ?_ ?_
 rotate_left
 {
 rintro w' ⟨s0, s1, s2, s3, s4, s5, s6, s7, s8, s9, s10⟩
 go_simp
 with_reducible rfl}
 rotate_left
 {
 simp only [Act.put, Q3, i64_w, i32_w]
 rfl}
 refine pure_ (i := 20) (N := some 179) (v := ?_) (a' := ?_) #[true, true, true, true, true, true, true, true, true, true, true, true, true, true, true, true, true, true, true, true, true, false, false] rfl rfl (any_of HT_.out (by kernel_rfl)) (fun _ _ _ h => h) (Or.inl ⟨by rfl, ?_⟩) ?_ ?_
 rotate_left
 {
 intro w'
 go_simp
 with_reducible rfl}
 rotate_left
 {
 simp only [Act.put, Q3, i64_w, i32_w]
 rfl}
 refine pure_ (i := 21) (N := some 180) (v := ?_) (a' := ?_) #[true, true, true, true, true, true, true, true, true, true, true, true, true, true, true, true, true, true, true, true, true, true, false] rfl rfl (any_of HT_.out (by kernel_rfl)) (fun _ _ _ h => h) (Or.inl ⟨by rfl, ?_⟩) ?_ ?_
 rotate_left
 {
 intro w'
 go_simp
 with_reducible rfl}
 rotate_left
 {
 simp only [Act.put, Q3, i64_w, i32_w]
 rfl}
 refine last_ (i := 22) (N := none) #[true, true, true, true, true, true, true, true, true, true, true, true, true, true, true, true, true, true, true, true, true, true, true] rfl rfl (one_of HT_.out (by kernel_rfl)) (by decide) (fun K hK => ?_)
 refine skip_ (w1 := ?_) (by rfl) rfl ?_ ?_
 rotate_left
 {
 go_simp
 rfl}
 refine hK.out _ _ ?_
 clear hK K
 refine done_ (done_of HT_.out (by kernel_rfl)) ?_
 try go_wp2
 go_roundg k6
 case measure => have := HJ2.out; have := HK2.out; have := HK3.out; have := HK4.out; have := HK5.out; have := HK6.out; omega
 case rel => exact ⟨(x8_6), (wrap64 (x19_6 + 1)), (y188), (.slice (some ⟨go135, 0, none⟩) x184002_6.length co135), (by first | rfl | (simp; done) | (simp [*]; done)), H', ⟨by have := HJ2.out; have := HK2.out; have := HK3.out; have := HK4.out; have := HK5.out; have := HK6.out; omega⟩, ⟨by (with_reducible repeat (first | apply Ra | apply Rb | apply Rc)); exact Kd.R_mono (Kd.R_far (p := ⟨go135, (x19_6 : Int).toNat, none⟩) (Kd.R_mono HO_8.out (fun k_ hk => (⟨hk, fun e_ => hk (by rw [e_]; rfl)⟩ : _ ∧ k_ ≠ go135))) (fun _ hk => hk.2) (.int .i64 (wrap64 ((rd ((rd_T97 x14_4 x17_5).f2) x19_6) + (rd ((rd_T97 x14_4 (ji110)).f2) x19_6))))) (fun _ hk => hk.1)⟩, ⟨by (with_reducible repeat (first | apply Kd.N_alloc | apply Kd.N_drewN | apply Kd.N_drew)); exact Kd.N_mono (Kd.N_far (p := ⟨go135, (x19_6 : Int).toNat, none⟩) (Kd.N_mono HO_9.out (fun k_ hk => (⟨hk, fun e_ => hk.2.2.1 (by rw [e_]; rfl)⟩ : _ ∧ k_ ≠ go135))) (fun _ hk => hk.2) (.int .i64 (wrap64 ((rd ((rd_T97 x14_4 x17_5).f2) x19_6) + (rd ((rd_T97 x14_4 (ji110)).f2) x19_6))))) (fun _ hk => ⟨hk.1.1, ⟨hk.1.2.1, ⟨hk.1.2.2.1, hk.1.2.2.2⟩⟩⟩)⟩, ⟨by (with_reducible repeat (first | apply Kd.N_alloc | apply Kd.N_drewN | apply Kd.N_drew)); exact Kd.N_mono (Kd.N_far (p := ⟨go135, (x19_6 : Int).toNat, none⟩) (Kd.N_mono HO_14.out (fun k_ hk => (⟨hk, fun e_ => hk.2.2.1 (by rw [e_]; rfl)⟩ : _ ∧ k_ ≠ go135))) (fun _ hk => hk.2) (.int .i64 (wrap64 ((rd ((rd_T97 x14_4 x17_5).f2) x19_6) + (rd ((rd_T97 x14_4 (ji110)).f2) x19_6))))) (fun _ hk => ⟨hk.1.1, ⟨hk.1.2.1, ⟨hk.1.2.2.1, hk.1.2.2.2⟩⟩⟩)⟩, ⟨by (with_reducible repeat (first | apply Kd.N_alloc | apply Kd.N_drewN | apply Kd.N_drew)); exact Kd.N_mono (Kd.N_far (p := ⟨go135, (x19_6 : Int).toNat, none⟩) (Kd.N_mono HO_16.out (fun k_ hk => (⟨hk, fun e_ => hk.2.2.2.1 (by rw [e_]; rfl)⟩ : _ ∧ k_ ≠ go135))) (fun _ hk => hk.2) (.int .i64 (wrap64 ((rd ((rd_T97 x14_4 x17_5).f2) x19_6) + (rd ((rd_T97 x14_4 (ji110)).f2) x19_6))))) (fun _ hk => ⟨hk.1.1, ⟨hk.1.2.1, ⟨hk.1.2.2.1, ⟨hk.1.2.2.2.1, hk.1.2.2.2.2⟩⟩⟩⟩)⟩, ⟨by (with_reducible repeat (first | apply Ra | apply Rb | apply Rc)); exact HQ137.out⟩, ⟨by (with_reducible repeat (first | refine blk_drewN ?_ _ | refine blk_drew ?_ | refine blk_alloc ?_ _)); refine blk_far ?_ (by have h_ := Kd.R_ne HO_184002.out BK183.out (by decide); intro e_; exact h_ (by rw [e_]; rfl)) _; (with_reducible repeat (first | refine blk_drewN ?_ _ | refine blk_drew ?_ | refine blk_alloc ?_ _)); exact BK183.out⟩, ⟨by repeat (first | (with_reducible first | exact HB.out | apply Ba | apply Bb | apply Bc | refine below_set ?_ GB135.out | refine below_set ?_ GE183.out) | exact HB.out)⟩⟩}
 {
 rw [if_neg c134] at H
 exact absurd H (by simp)}}
 {
 rw [if_neg c133] at H
 exact absurd H (by simp)}}
 {
 rw [if_neg c132] at H
 exact absurd H (by simp)}}
 {
 rw [if_neg c131] at H
 exact absurd H (by simp)}}
 {
 rw [if_neg c129] at H
 exact absurd H (by simp)}}
 {
 rw [if_neg c128] at H
 exact absurd H (by simp)}}
 {
 rw [if_neg c127] at H
 exact absurd H (by simp)}}
 {
 rw [if_neg c126] at H
 exact absurd H (by simp)}}
 {
 rw [if_neg c125] at H
 have c125b0 : decide (x19_6 < (l1.length : Int)) = false := decide_eq_false c125
 clear c125
 by_cases c138 : x16_5.length < 3518437208883
 {
 rw [if_pos c138] at H
 have LMc138 := Aside0.mk c138
 clear c138
 obtain ⟨y189, hy189⟩ : ∃ y_ : List (S97), y_ = (x16_5 ++ [(⟨(wrap64 (((rd_T97 x14_4 x17_5).f0) + ((rd_T97 x14_4 (ji110)).f0))), false, x184002_6⟩ : S97)]) := ⟨_, rfl⟩
 replace H : (vitrineref02_Limit.l4 k6 a0 l1 x6_2 x8_6 x9_3 x14_4 x15_4 y189 (wrap64 (x17_5 + 2))) = some (r1, r2) := by first | (rw [hy189]; with_reducible exact H) | (have H2_ := (Option.bind_some _ _).symm.trans H; rw [hy189]; with_reducible exact H2_) | (have H2_ := (Option.bind_some _ _).symm.trans H; with_reducible exact H2_) | with_reducible exact H | (rw [hy189]; exact H) | exact H
 have Ny189 := Aside0.mk hy189
 clear hy189
 have H' := Aside0.mk H
 clear H
 have hcz139_0 : wr.cell? ⟨gb183, 0, none⟩ = some (.int .i64 (wrap64 (((rd_T97 x14_4 x17_5).f0) + ((rd_T97 x14_4 (ji110)).f0)))) := (blk_cell BK183.out 0).trans rfl
 have hcz139_1 : wr.cell? ⟨gb183, 1, none⟩ = some (.bool false) := (blk_cell BK183.out 1).trans rfl
 have hcz139_2 : wr.cell? ⟨gb183, 2, none⟩ = some (u184002) := (blk_cell BK183.out 2).trans rfl
 have hfz139_0 := blk_frozen BK183.out 0
 have hfz139_1 := blk_frozen BK183.out 1
 have hfz139_2 := blk_frozen BK183.out 2
 obtain ⟨Ao141, co141, eo141⟩ := Kd.R_slice HO_184002.out
 subst eo141
 go_wp2_with (first | ((with_reducible refine gate_builtin (b := .append) (xs := #[.tmp 181, .tmp 183]) rfl ?_); at_builtin; refine Kd.N_append k97 (w0 := w) w.heap.size rfl (.tmp 181) (.tmp 183) 95 97 (.agg #[(.int .i64 0), (.bool false), (.slice none 0 0)]) 40 rfl Try.underlying95 info97 rfl (by decide) (by omega) u16 x16_5 (⟨(wrap64 (((rd_T97 x14_4 x17_5).f0) + ((rd_T97 x14_4 (ji110)).f0))), false, x184002_6⟩ : S97) [.int .i64 (wrap64 (((rd_T97 x14_4 x17_5).f0) + ((rd_T97 x14_4 (ji110)).f0))), .bool false, .slice Ao141 x184002_6.length co141] (fun k_ => some k_ ≠ (v125 : Value).ownBlock ∧ some k_ ≠ (u9 : Value).ownBlock ∧ some k_ ≠ (.slice (some ad178) x14_4.length co114 : Value).ownBlock ∧ k_ ≠ gb183) (fun k_ => ((fun k_ => some k_ ≠ (v125 : Value).ownBlock ∧ some k_ ≠ (u9 : Value).ownBlock ∧ some k_ ≠ (.slice (some ad178) x14_4.length co114 : Value).ownBlock ∧ k_ ≠ gb183)) k_ ∧ some k_ ≠ (u16 : Value).ownBlock) rfl rfl ?aP (fun _ hk => hk) ?aF ?aO ?aB ?aS ?aL ?_; (case aP => exact (k97_mkF _ _ (⟨(wrap64 (((rd_T97 x14_4 x17_5).f0) + ((rd_T97 x14_4 (ji110)).f0))), false, x184002_6⟩ : S97) (Kd.R_reads' (Kd.R_mono (ok' := (fun k_ => ((fun k_ => some k_ ≠ (v125 : Value).ownBlock ∧ some k_ ≠ (u9 : Value).ownBlock ∧ some k_ ≠ (.slice (some ad178) x14_4.length co114 : Value).ownBlock ∧ k_ ≠ gb183)) k_ ∧ some k_ ≠ (u16 : Value).ownBlock)) (Kd.R_types (Kd.R_apart' (Kd.R_apart' (Kd.R_apart' (HO_184002.out) (Kd.N_typed HO_9.out) (by decide)) (Kd.N_typed HO_14.out) (by decide)) (Kd.N_typed HO_16.out) (by decide)) BK183.out (by decide)) (fun k_ hk => ⟨⟨hk.1.1.1.1, ⟨hk.1.1.1.2, ⟨hk.1.1.2, hk.2⟩⟩⟩, hk.1.2⟩))).2.1 (Kd.R_F (Kd.R_mono (ok' := (fun k_ => ((fun k_ => some k_ ≠ (v125 : Value).ownBlock ∧ some k_ ≠ (u9 : Value).ownBlock ∧ some k_ ≠ (.slice (some ad178) x14_4.length co114 : Value).ownBlock ∧ k_ ≠ gb183)) k_ ∧ some k_ ≠ (u16 : Value).ownBlock)) (Kd.R_types (Kd.R_apart' (Kd.R_apart' (Kd.R_apart' (HO_184002.out) (Kd.N_typed HO_9.out) (by decide)) (Kd.N_typed HO_14.out) (by decide)) (Kd.N_typed HO_16.out) (by decide)) BK183.out (by decide)) (fun k_ hk => ⟨⟨hk.1.1.1.1, ⟨hk.1.1.1.2, ⟨hk.1.1.2, hk.2⟩⟩⟩, hk.1.2⟩))))); (case aB => exact (by repeat (first | (with_reducible first | exact HB.out | apply Ba | apply Bb | apply Bc | refine below_set ?_ GE183.out) | exact HB.out))); (case aF => exact (fun k_ hk => ⟨Kd.fresh' (Kd.R_lt (by (with_reducible repeat (first | apply Ra | apply Rb | apply Rc)); exact HO_8.out)) k_ hk, Kd.fresh' (Kd.N_lt (by (with_reducible repeat (first | apply Kd.N_alloc | apply Kd.N_drewN | apply Kd.N_drew)); exact HO_9.out)) k_ hk, Kd.fresh' (Kd.N_lt (by (with_reducible repeat (first | apply Kd.N_alloc | apply Kd.N_drewN | apply Kd.N_drew)); exact HO_14.out)) k_ hk, Kd.freshB (g := gb183) (o := .cells #[.int .i64 (wrap64 (((rd_T97 x14_4 x17_5).f0) + ((rd_T97 x14_4 (ji110)).f0))), .bool false, .slice Ao141 x184002_6.length co141] 97 (0, 0)) (by (with_reducible repeat (first | refine blk_drewN ?_ _ | refine blk_drew ?_ | refine blk_alloc ?_ _)); exact BK183.out) k_ hk⟩)); (case aO => exact (by (with_reducible repeat (first | apply Kd.N_alloc | apply Kd.N_drewN | apply Kd.N_drew)); exact Kd.N_mono HO_16.out (fun _ hk => ⟨hk.1, ⟨hk.2.1, ⟨hk.2.2.1, hk.2.2.2.2⟩⟩⟩))); (case aS => exact (below_size (by repeat (first | (with_reducible first | exact HB.out | apply Ba | apply Bb | apply Bc | refine below_set ?_ GE183.out) | exact HB.out)))); (case aL => have := LMc138.out; omega); intro v190 w140 ho hb hg hat; rw [← Ny189.out] at ho; have n0_ := Aside0.mk (Kd.R_over' (by (with_reducible repeat (first | apply Ra | apply Rb | apply Rc)); exact HO_8.out) (Kd.N_typed (by (with_reducible repeat (first | apply Kd.N_alloc | apply Kd.N_drewN | apply Kd.N_drew)); exact HO_16.out)) (by decide) hg); have n1_ := Aside0.mk (Kd.N_afterv (ok := (fun k_ => some k_ ≠ (v125 : Value).ownBlock ∧ some k_ ≠ (.slice Ao141 x184002_6.length co141 : Value).ownBlock ∧ k_ ≠ gb183)) (by (with_reducible repeat (first | apply Kd.N_alloc | apply Kd.N_drewN | apply Kd.N_drew)); exact Kd.N_mono HO_9.out (fun _ hk => ⟨⟨hk.1, ⟨hk.2.2.1, hk.2.2.2⟩⟩, hk.2.1⟩)) hg hat); have n2_ := Aside0.mk (Kd.N_afterv (ok := (fun k_ => some k_ ≠ (v125 : Value).ownBlock ∧ some k_ ≠ (.slice Ao141 x184002_6.length co141 : Value).ownBlock ∧ k_ ≠ gb183)) (by (with_reducible repeat (first | apply Kd.N_alloc | apply Kd.N_drewN | apply Kd.N_drew)); exact Kd.N_mono HO_14.out (fun _ hk => ⟨⟨hk.1, ⟨hk.2.2.1, hk.2.2.2⟩⟩, hk.2.1⟩)) hg hat); have n3_ := Aside0.mk (blk_grown (g := gb183) (o := .cells #[.int .i64 (wrap64 (((rd_T97 x14_4 x17_5).f0) + ((rd_T97 x14_4 (ji110)).f0))), .bool false, .slice Ao141 x184002_6.length co141] 97 (0, 0)) (by (with_reducible repeat (first | refine blk_drewN ?_ _ | refine blk_drew ?_ | refine blk_alloc ?_ _)); exact BK183.out) hg (Kd.N_away HO_16.out (fun _ hk => hk.2.2.2.2))); have n4_ := Aside0.mk (hb); have n5_ := Aside0.mk (ho); clear HO_8 HO_9 HO_14 BK183 HB HO_16 HO_184002; have HO_8 := n0_; have HO_9 := n1_; have HO_14 := n2_; have BK183 := n3_; have HB := n4_; have HO191 := n5_; clear n0_ n1_ n2_ n3_ n4_ n5_; clear ho hb hg hat))
 go_roundg k6
 case measure => have := HJ2.out; have := HK2.out; have := HK3.out; have := HK4.out; have := HK5.out; have := HK6.out; omega
 case rel => exact ⟨(x8_6), (y189), (wrap64 (x17_5 + 2)), (by first | rfl | (simp; done) | (simp [*]; done)), H', ⟨by have := HJ2.out; have := HK2.out; have := HK3.out; have := HK4.out; have := HK5.out; have := HK6.out; omega⟩, ⟨by (with_reducible repeat (first | apply Ra | apply Rb | apply Rc)); exact Kd.R_mono HO_8.out (fun _ hk => trivial)⟩, ⟨by (with_reducible repeat (first | apply Kd.N_alloc | apply Kd.N_drewN | apply Kd.N_drew)); exact Kd.N_mono HO_9.out (fun _ hk => ⟨hk.1.1, hk.2⟩)⟩, ⟨by (with_reducible repeat (first | apply Kd.N_alloc | apply Kd.N_drewN | apply Kd.N_drew)); exact Kd.N_mono HO_14.out (fun _ hk => ⟨hk.1.1, hk.2⟩)⟩, ⟨by (with_reducible repeat (first | apply Kd.N_alloc | apply Kd.N_drewN | apply Kd.N_drew)); exact Kd.N_mono HO191.out (fun _ hk => ⟨hk.1, ⟨hk.2.1, hk.2.2.1⟩⟩)⟩, ⟨by repeat (first | (with_reducible first | exact HB.out | apply Ba | apply Bb | apply Bc | refine below_set ?_ GE183.out) | exact HB.out)⟩⟩}
 {
 rw [if_neg c138] at H
 exact absurd H (by simp)}})))}
 {
 rw [if_neg c113] at H
 exact absurd H (by simp)}}
 {
 rw [if_neg c112] at H
 exact absurd H (by simp)}}
 {
 rw [if_neg c111] at H
 exact absurd H (by simp)}}
 {
 rw [if_neg c109] at H
 exact absurd H (by simp)}}
 {
 rw [if_neg c108] at H
 exact absurd H (by simp)}}
 {
 rw [if_neg c107] at H
 have c107b0 : decide ((wrap64 (x17_5 + 1)) < (x14_4.length : Int)) = false := decide_eq_false c107
 clear c107
 replace H := Option.bind_eq_some_iff.mp H
 obtain ⟨t175, A1420, H⟩ := H
 replace H : (vitrineref02_Limit.l3 k5 a0 l1 x6_2 x8_5 x9_3 t175 (wrap64 (x15_4 + 1))) = some (r1, r2) := H
 have A142 := Aside0.mk A1420
 clear A1420
 have H' := Aside0.mk H
 clear H
 obtain ⟨Ao143, co143, eo143⟩ := Kd.N_slice HO_14.out
 subst eo143
 obtain ⟨Ao144, co144, eo144⟩ := Kd.N_slice HO_9.out
 subst eo144
 obtain ⟨Ao145, co145, eo145⟩ := Kd.N_slice HO_16.out
 subst eo145
 go_wp2_with (first | ((with_reducible refine gate_callee (f := 59) rfl ?_); refine goesL_ (some 187) rfl rfl Try.func59 (by kernel_rfl) rfl #[.slice Ao144 x9_3.length co144, .slice Ao145 x16_5.length co145] rfl (by (try simp only [List.map_toArray, List.map_cons, List.map_nil]); first | done | rfl | (simp only [List.length_drop, List.length_take]; rfl)) ?_; (with_reducible refine (vitrineref02_row.calls k5 (fun k_ => (some k_ ≠ (v125 : Value).ownBlock ∧ some k_ ≠ (.slice Ao145 x16_5.length co145 : Value).ownBlock)) _ _ x9_3 (fun k_ => (some k_ ≠ (v125 : Value).ownBlock ∧ (some k_ ≠ (.slice Ao144 x9_3.length co144 : Value).ownBlock ∧ some k_ ≠ (.slice Ao143 x14_4.length co143 : Value).ownBlock))) _ _ x16_5 t175 _ ?side1 ?side2 A142.out).mono ?_); (case side1 => exact Kd.N_V (HO_9.out)); (case side2 => exact Kd.N_V (HO_16.out)); rintro e w146 ⟨v176, rfl, ho0, hb⟩; refine ⟨_, rfl, ?_⟩; have n0_ := Aside0.mk (Kd.R_below (by (with_reducible repeat (first | apply Ra | apply Rb | apply Rc)); exact HO_8.out) hb); have n1_ := Aside0.mk (Kd.N_elder' (by (with_reducible repeat (first | apply Kd.N_alloc | apply Kd.N_drewN | apply Kd.N_drew)); exact HO_9.out) (Kd.N_base ho0) hb); have n2_ := Aside0.mk (Kd.N_elder' (by (with_reducible repeat (first | apply Kd.N_alloc | apply Kd.N_drewN | apply Kd.N_drew)); exact HO_14.out) (Kd.N_base ho0) hb); have n3_ := Aside0.mk (Kd.N_elder' (by (with_reducible repeat (first | apply Kd.N_alloc | apply Kd.N_drewN | apply Kd.N_drew)); exact HO_16.out) (Kd.N_base ho0) hb); have n4_ := Aside0.mk (Kd.N_lower (Kd.N_mono (ok' := fun k_ => some k_ ≠ (v125 : Value).ownBlock) ho0 (fun k_ hk_ => Or.elim hk_ (fun hs_ => Or.elim hs_ (fun hs_ => hs_.1) (fun hs_ => hs_.1)) (fun hn_ => (Kd.fresh' (Kd.R_lt (by (with_reducible repeat (first | apply Ra | apply Rb | apply Rc)); exact HO_8.out)) k_ hn_)))) (below_size (by repeat (first | (with_reducible first | exact HB.out | apply Ba | apply Bb | apply Bc) | exact HB.out)))); have n5_ := Aside0.mk (below_step (by repeat (first | (with_reducible first | exact HB.out | apply Ba | apply Bb | apply Bc) | exact HB.out)) hb); clear HO_8 HO_9 HO_14 HO_16 HB; have HO_8 := n0_; have HO_9 := n1_; have HO_14 := n2_; have HO_16 := n3_; have HO177 := n4_; have HB := n5_; clear n0_ n1_ n2_ n3_ n4_ n5_; (try clear hb); (try clear hb2); (try clear hk); (try clear hi); (try clear ho0)))
 go_roundg k5
 case measure => have := HJ2.out; have := HK2.out; have := HK3.out; have := HK4.out; have := HK5.out; omega
 case rel => exact ⟨(x8_5), (t175), (wrap64 (x15_4 + 1)), (by first | rfl | (simp; done) | (simp [*]; done)), H', ⟨by have := HJ2.out; have := HK2.out; have := HK3.out; have := HK4.out; have := HK5.out; omega⟩, ⟨by (with_reducible repeat (first | apply Ra | apply Rb | apply Rc)); exact HO_8.out⟩, ⟨by (with_reducible repeat (first | apply Kd.N_alloc | apply Kd.N_drewN | apply Kd.N_drew)); exact Kd.N_mono HO_9.out (fun _ hk => hk.1.1)⟩, ⟨by (with_reducible repeat (first | apply Kd.N_alloc | apply Kd.N_drewN | apply Kd.N_drew)); exact HO177.out⟩, ⟨by repeat (first | (with_reducible first | exact HB.out | apply Ba | apply Bb | apply Bc) | exact HB.out)⟩⟩})))}
 {
 rw [if_neg c106] at H
 have c106b0 : decide (x15_4 < a0) = false := decide_eq_false c106
 clear c106
 have H' := Aside0.mk H
 clear H
 go_wp2
 go_loopg [20] k4 (fun kq v20 w' => ∃ (x8_5 : List Int) (x20_5 : Int), v20 = .int .i64 x20_5 ∧ Aside0 (vitrineref02_Limit.l6 kq l1 x6_2 x8_5 x14_4 x20_5 = some (r1, r2)) ∧ Aside0 (kq ≤ k4) ∧ Aside0 (Kd.R (Kd.int .i64) 3 w' w.heap.size (fun _ => True) v125 x8_5) ∧ Aside0 (Kd.N k97 97 w' w.heap.size (fun k_ => some k_ ≠ (v125 : Value).ownBlock) u14 x14_4) ∧ Aside0 (Below w.heap.size w w'))
 case atStart => exact ⟨(x8_4), (0), (by first | rfl | (simp; done) | (simp [*]; done)), H', ⟨Nat.le_refl _⟩, ⟨by (with_reducible repeat (first | apply Ra | apply Rb | apply Rc)); exact HO_8.out⟩, ⟨by (with_reducible repeat (first | apply Kd.N_alloc | apply Kd.N_drewN | apply Kd.N_drew)); exact HO_14.out⟩, ⟨by repeat (first | (with_reducible first | exact HB.out | apply Ba | apply Bb | apply Bc) | exact HB.out)⟩⟩
 case round => (as_aux_lemma => (
 clear H'
 try clear c1
 try clear p1
 try clear q1
 try clear hx1
 try clear p2
 try clear c5
 try clear p5
 try clear q5
 try clear hx5
 try clear p6
 try clear q6
 try clear c7
 try clear q7
 try clear c8
 try clear p8
 try clear q8
 try clear hx8
 try clear hf8
 try clear c9
 try clear q9
 try clear c10
 try clear q10
 try clear c11
 try clear c12
 try clear c13
 try clear p13
 try clear q13
 try clear hx13
 try clear hf13
 try clear c17
 try clear p17
 try clear q17
 try clear hx17
 try clear c18
 try clear p18
 try clear q18
 try clear hx18
 try clear p58
 try clear q58
 try clear hx58
 try clear c59
 try clear q61
 try clear p64
 try clear q65
 try clear q71
 try clear c75
 try clear q75
 try clear c77
 try clear c77b0
 try clear c77b1
 try clear c78
 try clear c78b0
 try clear c78b1
 try clear c79
 try clear c80
 try clear c81
 try clear c81b0
 try clear c82
 try clear c82b0
 try clear c83
 try clear c84
 try clear c84b0
 try clear c84b1
 try clear c85
 try clear c85b0
 try clear c86
 try clear c86b0
 try clear p87
 try clear q87
 try clear hx87
 try clear hf87
 try clear q90
 try clear c94
 try clear q94
 try clear q100
 try clear c104
 try clear q104
 try clear c106
 try clear c106b0
 try clear c107
 try clear c107b0
 try clear c108
 try clear c108b0
 try clear c109
 try clear c109b0
 try clear c111
 try clear c111b0
 try clear c112
 try clear c112b0
 try clear c112b1
 try clear c113
 try clear c113b0
 try clear c113b1
 try clear c125
 try clear c125b0
 try clear c126
 try clear c126b0
 try clear c127
 try clear c127b0
 try clear c128
 try clear c128b0
 try clear c129
 try clear c129b0
 try clear c131
 try clear c131b0
 try clear c132
 try clear c132b0
 try clear c133
 try clear c133b0
 try clear c134
 try clear c134b0
 try clear p134
 try clear q134
 try clear hx134
 try clear p135
 try clear q135
 try clear hx135
 try clear hf135
 try clear c138
 try clear hcz102_0
 try clear hcz102_1
 try clear hcz102_2
 try clear hcz139_0
 try clear hcz139_1
 try clear hcz139_2
 try clear hcz63_0
 try clear hcz63_1
 try clear hcz63_2
 try clear hcz73_0
 try clear hcz73_1
 try clear hcz73_2
 try clear hcz92_0
 try clear hcz92_1
 try clear hcz92_2
 try clear hfz102_0
 try clear hfz102_1
 try clear hfz102_2
 try clear hfz139_0
 try clear hfz139_1
 try clear hfz139_2
 try clear hfz63_0
 try clear hfz63_1
 try clear hfz63_2
 try clear hfz73_0
 try clear hfz73_1
 try clear hfz73_2
 try clear hfz92_0
 try clear hfz92_1
 try clear hfz92_2
 try clear hx134_0
 try clear hx134_1
 try clear hx134_2
 try clear hx135_0
 try clear hx178_0
 try clear hx178_1
 try clear hx178_2
 try clear hx179_0
 try clear hx179_1
 try clear hx179_2
 try clear hx184_0
 try clear hx184_1
 try clear hx184_2
 try clear hx185_0
 try clear hx186_0
 try clear hx186_1
 try clear hx186_2
 try clear hx187_0
 try clear hx58_0
 try clear hx87_0
 try clear p1
 try clear p13
 try clear p134
 try clear p135
 try clear p17
 try clear p178
 try clear p179
 try clear p184
 try clear p185
 try clear p186
 try clear p187
 try clear p2
 try clear p5
 try clear p58
 try clear p6
 try clear p64
 try clear p8
 try clear p87
 try clear q0104
 try clear q065
 try clear q075
 try clear q094
 try clear q1
 try clear q10
 try clear q100
 try clear q104
 try clear q13
 try clear q134
 try clear q135
 try clear q17
 try clear q178
 try clear q179
 try clear q184
 try clear q185
 try clear q186
 try clear q187
 try clear q5
 try clear q58
 try clear q6
 try clear q61
 try clear q65
 try clear q7
 try clear q71
 try clear q75
 try clear q8
 try clear q87
 try clear q9
 try clear q90
 try clear q94
 obtain ⟨x8_5, x20_5, rfl, HA, HK5, HO_8, HO_14, HB⟩ := hrel
 cases gk with
 | zero => exact absurd HA.out (by simp [vitrineref02_Limit.l6])
 | succ k5 => (
 have H := HA.out
 clear HA
 simp only [vitrineref02_Limit.l6] at H
 by_cases c147 : x20_5 < (wrap64 ((wrap64 (2 * x6_2)) - 2))
 {
 rw [if_pos c147] at H
 have c147b0 : decide (x20_5 < (wrap64 ((wrap64 (2 * x6_2)) - 2))) = true := decide_eq_true c147
 clear c147
 have H' := Aside0.mk H
 clear H
 go_wp2
 go_loopg [21] k5 (fun kq v21 w' => ∃ (x8_6 : List Int) (x21_6 : Int), v21 = .int .i64 x21_6 ∧ Aside0 (vitrineref02_Limit.l7 kq l1 x6_2 x8_6 x14_4 x20_5 x21_6 = some (r1, r2)) ∧ Aside0 (kq ≤ k5) ∧ Aside0 (Kd.R (Kd.int .i64) 3 w' w.heap.size (fun _ => True) v125 x8_6) ∧ Aside0 (Kd.N k97 97 w' w.heap.size (fun k_ => some k_ ≠ (v125 : Value).ownBlock) u14 x14_4) ∧ Aside0 (Below w.heap.size w w'))
 case atStart => exact ⟨(x8_5), (0), (by first | rfl | (simp; done) | (simp [*]; done)), H', ⟨Nat.le_refl _⟩, ⟨by (with_reducible repeat (first | apply Ra | apply Rb | apply Rc)); exact HO_8.out⟩, ⟨by (with_reducible repeat (first | apply Kd.N_alloc | apply Kd.N_drewN | apply Kd.N_drew)); exact HO_14.out⟩, ⟨by repeat (first | (with_reducible first | exact HB.out | apply Ba | apply Bb | apply Bc) | exact HB.out)⟩⟩
 case round => (as_aux_lemma => (
 clear H'
 try clear c1
 try clear p1
 try clear q1
 try clear hx1
 try clear p2
 try clear c5
 try clear p5
 try clear q5
 try clear hx5
 try clear p6
 try clear q6
 try clear c7
 try clear q7
 try clear c8
 try clear p8
 try clear q8
 try clear hx8
 try clear hf8
 try clear c9
 try clear q9
 try clear c10
 try clear q10
 try clear c11
 try clear c12
 try clear c13
 try clear p13
 try clear q13
 try clear hx13
 try clear hf13
 try clear c14
 try clear c17
 try clear p17
 try clear q17
 try clear hx17
 try clear c18
 try clear p18
 try clear q18
 try clear hx18
 try clear p58
 try clear q58
 try clear hx58
 try clear c59
 try clear q61
 try clear p64
 try clear q65
 try clear q71
 try clear c75
 try clear q75
 try clear c77
 try clear c77b0
 try clear c77b1
 try clear c78
 try clear c78b0
 try clear c78b1
 try clear c79
 try clear c80
 try clear c81
 try clear c81b0
 try clear c82
 try clear c82b0
 try clear c83
 try clear c84
 try clear c84b0
 try clear c84b1
 try clear c85
 try clear c85b0
 try clear c86
 try clear c86b0
 try clear p87
 try clear q87
 try clear hx87
 try clear hf87
 try clear q90
 try clear c94
 try clear q94
 try clear q100
 try clear c104
 try clear q104
 try clear c106
 try clear c106b0
 try clear c107
 try clear c107b0
 try clear c108
 try clear c108b0
 try clear c109
 try clear c109b0
 try clear c111
 try clear c111b0
 try clear c112
 try clear c112b0
 try clear c112b1
 try clear c113
 try clear c113b0
 try clear c113b1
 try clear c125
 try clear c125b0
 try clear c126
 try clear c126b0
 try clear c127
 try clear c127b0
 try clear c128
 try clear c128b0
 try clear c129
 try clear c129b0
 try clear c131
 try clear c131b0
 try clear c132
 try clear c132b0
 try clear c133
 try clear c133b0
 try clear c134
 try clear c134b0
 try clear p134
 try clear q134
 try clear hx134
 try clear p135
 try clear q135
 try clear hx135
 try clear hf135
 try clear c138
 try clear c147
 try clear c147b0
 try clear hcz102_0
 try clear hcz102_1
 try clear hcz102_2
 try clear hcz139_0
 try clear hcz139_1
 try clear hcz139_2
 try clear hcz63_0
 try clear hcz63_1
 try clear hcz63_2
 try clear hcz73_0
 try clear hcz73_1
 try clear hcz73_2
 try clear hcz92_0
 try clear hcz92_1
 try clear hcz92_2
 try clear hfz102_0
 try clear hfz102_1
 try clear hfz102_2
 try clear hfz139_0
 try clear hfz139_1
 try clear hfz139_2
 try clear hfz63_0
 try clear hfz63_1
 try clear hfz63_2
 try clear hfz73_0
 try clear hfz73_1
 try clear hfz73_2
 try clear hfz92_0
 try clear hfz92_1
 try clear hfz92_2
 try clear hx134_0
 try clear hx134_1
 try clear hx134_2
 try clear hx135_0
 try clear hx178_0
 try clear hx178_1
 try clear hx178_2
 try clear hx179_0
 try clear hx179_1
 try clear hx179_2
 try clear hx184_0
 try clear hx184_1
 try clear hx184_2
 try clear hx185_0
 try clear hx186_0
 try clear hx186_1
 try clear hx186_2
 try clear hx187_0
 try clear hx58_0
 try clear hx87_0
 try clear p1
 try clear p13
 try clear p134
 try clear p135
 try clear p17
 try clear p178
 try clear p179
 try clear p18
 try clear p184
 try clear p185
 try clear p186
 try clear p187
 try clear p2
 try clear p5
 try clear p58
 try clear p6
 try clear p64
 try clear p8
 try clear p87
 try clear q0104
 try clear q065
 try clear q075
 try clear q094
 try clear q1
 try clear q10
 try clear q100
 try clear q104
 try clear q13
 try clear q134
 try clear q135
 try clear q17
 try clear q178
 try clear q179
 try clear q18
 try clear q184
 try clear q185
 try clear q186
 try clear q187
 try clear q5
 try clear q58
 try clear q6
 try clear q61
 try clear q65
 try clear q7
 try clear q71
 try clear q75
 try clear q8
 try clear q87
 try clear q9
 try clear q90
 try clear q94
 obtain ⟨x8_6, x21_6, rfl, HA, HK6, HO_8, HO_14, HB⟩ := hrel
 cases gk with
 | zero => exact absurd HA.out (by simp [vitrineref02_Limit.l7])
 | succ k6 => (
 have H := HA.out
 clear HA
 simp only [vitrineref02_Limit.l7] at H
 by_cases c148 : x21_6 < (l1.length : Int)
 {
 rw [if_pos c148] at H
 have c148b0 : decide (x21_6 < (l1.length : Int)) = true := decide_eq_true c148
 clear c148
 by_cases c149 : 0 ≤ x21_6
 {
 rw [if_pos c149] at H
 have c149b0 : decide (0 ≤ x21_6) = true := decide_eq_true c149
 clear c149
 by_cases c150 : x21_6 < (x8_6.length : Int)
 {
 rw [if_pos c150] at H
 have c150b0 : decide (x21_6 < (x8_6.length : Int)) = true := decide_eq_true c150
 clear c150
 by_cases c151 : 0 ≤ x20_5
 {
 rw [if_pos c151] at H
 have c151b0 : decide (0 ≤ x20_5) = true := decide_eq_true c151
 clear c151
 by_cases c152 : x20_5 < (x14_4.length : Int)
 {
 rw [if_pos c152] at H
 have c152b0 : decide (x20_5 < (x14_4.length : Int)) = true := decide_eq_true c152
 clear c152
 by_cases c153 : x21_6 < (((rd_T97 x14_4 x20_5).f2).length : Int)
 {
 rw [if_pos c153] at H
 have c153b0 : decide (x21_6 < (((rd_T97 x14_4 x20_5).f2).length : Int)) = true := decide_eq_true c153
 clear c153
 obtain ⟨y195, hy195⟩ : ∃ y_ : List Int, y_ = (x8_6.set (x21_6 : Int).toNat (wrap64 ((rd x8_6 x21_6) + (rd ((rd_T97 x14_4 x20_5).f2) x21_6)))) := ⟨_, rfl⟩
 replace H : (vitrineref02_Limit.l7 k6 l1 x6_2 y195 x14_4 x20_5 (wrap64 (x21_6 + 1))) = some (r1, r2) := by first | (rw [hy195]; with_reducible exact H) | (have H2_ := (Option.bind_some _ _).symm.trans H; rw [hy195]; with_reducible exact H2_) | (have H2_ := (Option.bind_some _ _).symm.trans H; with_reducible exact H2_) | with_reducible exact H | (rw [hy195]; exact H) | exact H
 have Ny195 := Aside0.mk hy195
 clear hy195
 have H' := Aside0.mk H
 clear H
 try go_wp2
 have n0_ := Aside0.mk (Rc HO_8.out)
 have n1_ := Aside0.mk (Kd.N_drew HO_14.out)
 have n2_ := Aside0.mk (Bc HB.out)
 clear HO_8
 clear HO_14
 clear HB
 have HO_8 := n0_
 have HO_14 := n1_
 have HB := n2_
 clear n0_ n1_ n2_
 obtain ⟨Ao156, co156, eo156⟩ := Kd.R_slice HO_8.out
 (first | subst eo156 | (injection eo156 with f1_ f2_ f3_; have f4_ := f1_.symm; have f5_ := f3_.symm; clear f1_ f2_ f3_; subst f4_; subst f5_))
 have p192 : 0 ≤ (x21_6 : Int) := Od (by first | (with_reducible assumption) | assumption)
 have q192 : x21_6 < (x8_6.length : Int) := Od (by first | (with_reducible assumption) | assumption)
 obtain ⟨ad192, e192, hx192_0⟩ := Kd.at_int (Kd.R_reads' HO_8.out).2.2 x21_6 p192 q192
 cases e192
 replace p192 := eq_true p192
 replace q192 := eq_true q192
 obtain ⟨Ao157, co157, eo157⟩ := Kd.N_slice HO_14.out
 (first | subst eo157 | (injection eo157 with f1_ f2_ f3_; have f4_ := f1_.symm; have f5_ := f3_.symm; clear f1_ f2_ f3_; subst f4_; subst f5_))
 have p193 : 0 ≤ (x20_5 : Int) := Od (by first | (with_reducible assumption) | assumption)
 have q193 : x20_5 < (x14_4.length : Int) := Od (by first | (with_reducible assumption) | assumption)
 obtain ⟨ad193, A193_2, c193_2, e193, hx193_0, hx193_1, hx193_2, hl193_2, hi193_2⟩ := at_T97 (Kd.N_reads' HO_14.out).2.2 x20_5 p193 q193
 cases e193
 obtain ⟨ce193, hce193, hMe193, hcc193⟩ := Kd.N_get HO_14.out z97 x20_5 p193 (by first | exact q193 | exact Od (by first | (with_reducible assumption) | assumption) | (have e_ := (Kd.N_reads' HO_14.out).1; omega))
 obtain ⟨ua193_2, uc193_2, rfl, ul193_2, ge193_2⟩ := k97_openF hMe193
 have hv193_2 := hcc193 2 _ rfl
 rw [add_field _ _ 2 (by omega)] at hv193_2
 replace hv193_2 := Option.some.inj (hv193_2.symm.trans hx193_2)
 injection hv193_2 with hva_ hvn_ hvc_
 rw [hva_] at ge193_2
 rw [hvc_] at ul193_2
 have HL193_2 := Aside0.mk (show Kd.V (Kd.int .i64) 3 _ w.heap.size _ _ ((rd_T97 x14_4 x20_5).f2) from Kd.V_mk ul193_2 ge193_2)
 clear hva_ hvn_ hvc_ ge193_2 ul193_2
 clear hcc193 hce193
 have HR193_2 := Aside0.mk hi193_2
 have HC193_2 := Aside0.mk hl193_2
 clear hi193_2 hl193_2
 replace p193 := eq_true p193
 replace q193 := eq_true q193
 have p194 : 0 ≤ (x21_6 : Int) := Od (by first | (with_reducible assumption) | assumption)
 have q194 : x21_6 < (((rd_T97 x14_4 x20_5).f2).length : Int) := Od (by first | (with_reducible assumption) | assumption)
 obtain ⟨ad194, e194, hx194_0⟩ := Kd.at_int (by repeat (first | (with_reducible exact HR193_2.out) | (with_reducible refine Kd.C_alloc ?_ _) | (with_reducible refine Kd.C_drewN ?_ _) | (with_reducible refine Kd.C_drew ?_) | exact HR193_2.out)) x21_6 p194 q194
 cases e194
 replace p194 := eq_true p194
 replace q194 := eq_true q194
 have p154 : 0 ≤ (x21_6 : Int) := Od (by first | (with_reducible assumption) | assumption)
 have q154 : (x21_6 : Int) < ((x8_6.length : Int) : Int) := Od (by first | (with_reducible assumption) | assumption)
 obtain ⟨go154, co154, eo154, gb154, gl154, cl154, HG154⟩ := Kd.R_form HO_8.out (by omega)
 (first | cases eo154 | (injection eo154 with ea_ en_ ec_; (first | subst ea_ | (injection ea_ with ea_; subst ea_)); subst ec_; clear en_))
 have GB154 := Aside0.mk gb154
 have GG154 := Aside0.mk HG154
 clear gb154 gl154 HG154
 (first | simp only [add_plain] at hx192_0 | skip)
 obtain ⟨hx154_0, hf154_0⟩ := Kd.R_celln 0 HO_8.out (x21_6 : Int) p154 q154
 replace p154 := eq_true p154
 replace q154 := eq_true q154
 have HP158 := Kd.R_putn HO_8.out (x21_6 : Int) (wrap64 ((rd x8_6 x21_6) + (rd ((rd_T97 x14_4 x20_5).f2) x21_6)))
 rw [← Ny195.out] at HP158
 have HQ158 := Aside0.mk HP158
 clear HP158
 refine start_ (n := 17) (S := fun w' => w'.cell? ⟨go154, (x21_6).toNat, none⟩ = some (.int .i64 (rd x8_6 x21_6)) ∧ w'.cell? (ad193.add ((x20_5).toNat * 3)) = some (.int .i64 ((rd_T97 x14_4 x20_5).f0)) ∧ w'.cell? ⟨(ad193.add ((x20_5).toNat * 3)).block, (ad193.add ((x20_5).toNat * 3)).off + 1, none⟩ = some (.bool ((rd_T97 x14_4 x20_5).f1)) ∧ w'.cell? ⟨(ad193.add ((x20_5).toNat * 3)).block, (ad193.add ((x20_5).toNat * 3)).off + 2, none⟩ = some (.slice (some ad194) ((rd_T97 x14_4 x20_5).f2).length c193_2) ∧ w'.cell? (ad194.add (x21_6).toNat) = some (.int .i64 (rd ((rd_T97 x14_4 x20_5).f2) x21_6))) (ds := [16]) #[false, false, false, false, false, false, false, false, false, false, false, false, false, false, false, false, false] (by kernel_rfl) rfl rfl ⟨hx192_0, hx193_0, hx193_1, hx193_2, hx194_0⟩ (fun hHeld => ?_); refine with_tabW vitrineref02_Limit.tab52 vitrineref02_Limit.bits52 (fun HT_ HW_ => ?_)
 generalize wr.drew = w155 at HO_8 HO_14 HB GG154 HL193_2 HQ158 HR193_2 hf154_0 hx154_0 hx192_0 hx193_0 hx193_1 hx193_2 hx194_0 hHeld ⊢
 refine pure_ (i := 0) (N := some 201) (v := ?_) (a' := ?_) #[true, false, false, false, false, false, false, false, false, false, false, false, false, false, false, false, false] rfl rfl (any_of HT_.out (by kernel_rfl)) (fun _ _ _ h => h) (Or.inl ⟨by rfl, ?_⟩) ?_ ?_
 rotate_left
 {
 intro w'
 go_simp
 with_reducible rfl}
 rotate_left
 {
 simp only [Act.put, Q3, i64_w, i32_w]
 rfl}
 refine pure_ (i := 1) (N := some 202) (v := ?_) (a' := ?_) #[true, true, false, false, false, false, false, false, false, false, false, false, false, false, false, false, false] rfl rfl (any_of HT_.out (by kernel_rfl)) (fun _ _ _ h => h) (Or.inl ⟨by rfl, ?_⟩) ?_ ?_
 rotate_left
 {
 intro w'
 go_simp
 with_reducible rfl}
 rotate_left
 {
 simp only [Act.put, Q3, i64_w, i32_w]
 rfl}
 refine pure_ (i := 2) (N := some 203) (v := ?_) (a' := ?_) #[true, true, true, false, false, false, false, false, false, false, false, false, false, false, false, false, false] rfl rfl (any_of HT_.out (by kernel_rfl)) (fun _ _ _ h => h) (Or.inl ⟨by rfl, ?_⟩) ?_ ?_
 rotate_left
 {
 intro w'
 go_simp
 with_reducible rfl}
 rotate_left
 {
 simp only [Act.put, Q3, i64_w, i32_w]
 rfl}
 refine pure_ (i := 3) (N := some 204) (v := ?_) (a' := ?_) #[true, true, true, true, false, false, false, false, false, false, false, false, false, false, false, false, false] rfl rfl (any_of HT_.out (by kernel_rfl)) (fun _ _ _ h => h) (Or.inl ⟨by rfl, ?_⟩) ?_ ?_
 rotate_left
 {
 intro w'
 go_simp
 with_reducible rfl}
 rotate_left
 {
 simp only [Act.put, Q3, i64_w, i32_w]
 rfl}
 refine pure_ (i := 4) (N := some 205) (v := ?_) (a' := ?_) #[true, true, true, true, true, false, false, false, false, false, false, false, false, false, false, false, false] rfl rfl (any_of HT_.out (by kernel_rfl)) (fun _ _ _ h => h) (Or.inl ⟨by rfl, ?_⟩) ?_ ?_
 rotate_left
 {
 intro w'
 go_simp
 with_reducible rfl}
 rotate_left
 {
 simp only [Act.put, Q3, i64_w, i32_w]
 rfl}
 refine pure_ (i := 6) (N := some 207) (v := ?_) (a' := ?_) #[true, true, true, true, true, false, true, false, false, false, false, false, false, false, false, false, false] rfl rfl (any_of HT_.out (by kernel_rfl)) (fun _ _ _ h => h) (Or.inl ⟨by rfl, ?_⟩) ?_ ?_
 rotate_left
 {
 intro w'
 go_simp
 with_reducible rfl}
 rotate_left
 {
 simp only [Act.put, Q3, i64_w, i32_w]
 rfl}
 refine pure_ (i := 7) (N := some 208) (v := ?_) (a' := ?_) #[true, true, true, true, true, false, true, true, false, false, false, false, false, false, false, false, false] rfl rfl (any_of HT_.out (by kernel_rfl)) (fun _ _ _ h => h) (Or.inl ⟨by rfl, ?_⟩) ?_ ?_
 rotate_left
 {
 intro w'
 go_simp
 with_reducible rfl}
 rotate_left
 {
 simp only [Act.put, Q3, i64_w, i32_w]
 rfl}
 refine pure_ (i := 8) (N := some 209) (v := ?_) (a' := ?_) #[true, true, true, true, true, false, true, true, true, false, false, false, false, false, false, false, false] rfl rfl (any_of HT_.out (by kernel_rfl)) (fun _ _ _ h => h) (Or.inl ⟨by rfl, ?_⟩) ?_ ?_
 rotate_left
 {
 intro w'
 go_simp
 with_reducible rfl}
 rotate_left
 {
 simp only [Act.put, Q3, i64_w, i32_w]
 rfl}
 refine pure_ (i := 9) (N := some 210) (v := ?_) (a' := ?_) #[true, true, true, true, true, false, true, true, true, true, false, false, false, false, false, false, false] rfl rfl (any_of HT_.out (by kernel_rfl)) (fun _ _ _ h => h) (Or.inl ⟨by rfl, ?_⟩) ?_ ?_
 rotate_left
 {
 intro w'
 go_simp
 with_reducible rfl}
 rotate_left
 {
 simp only [Act.put, Q3, i64_w, i32_w]
 rfl}
 refine pure_ (i := 11) (N := some 212) (v := ?_) (a' := ?_) #[true, true, true, true, true, false, true, true, true, true, false, true, false, false, false, false, false] rfl rfl (any_of HT_.out (by kernel_rfl)) (fun _ _ _ h => h) (Or.inl ⟨by rfl, ?_⟩) ?_ ?_
 rotate_left
 {
 intro w'
 go_simp
 with_reducible rfl}
 rotate_left
 {
 simp only [Act.put, Q3, i64_w, i32_w]
 rfl}
 refine take_ (i := 5) (N := some 206) (v := ?_) (a' := ?_) #[true, true, true, true, true, true, true, true, true, true, false, true, false, false, false, false, false] rfl rfl (take_ofW HT_.out HW_.out (by kernel_rfl)) (fun _ _ _ h => h) (Or.inl ⟨by rfl, ?_⟩) hHeld ?_ ?_
 rotate_left
 {
 rintro w' ⟨s0, s1, s2, s3, s4⟩
 go_simp
 with_reducible rfl}
 rotate_left
 {
 simp only [Act.put, Q3, i64_w, i32_w]
 rfl}
 refine take_ (i := 10) (N := some 211) (v := ?_) (a' := ?_) #[true, true, true, true, true, true, true, true, true, true, true, true, false, false, false, false, false] rfl rfl (take_ofW HT_.out HW_.out (by kernel_rfl)) (fun _ _ _ h => h) (Or.inl ⟨by rfl, ?_⟩) hHeld ?_ ?_
 rotate_left
 {
 rintro w' ⟨s0, s1, s2, s3, s4⟩
 go_simp
 with_reducible rfl}
 rotate_left
 {
 simp only [Act.put, Q3, i64_w, i32_w]
 rfl}
 refine pure_ (i := 12) (N := some 213) (v := ?_) (a' := ?_) #[true, true, true, true, true, true, true, true, true, true, true, true, true, false, false, false, false] rfl rfl (any_of HT_.out (by kernel_rfl)) (fun _ _ _ h => h) (Or.inl ⟨by rfl, ?_⟩) ?_ ?_
 rotate_left
 {
 intro w'
 go_simp
 with_reducible rfl}
 rotate_left
 {
 simp only [Act.put, Q3, i64_w, i32_w]
 rfl}
 refine take_ (i := 13) (N := some 214) (v := ?_) (a' := ?_) #[true, true, true, true, true, true, true, true, true, true, true, true, true, true, false, false, false] rfl rfl (take_ofW HT_.out HW_.out (by kernel_rfl)) (fun _ _ _ h => h) (Or.inl ⟨by rfl, ?_⟩) hHeld ?_ ?_
 rotate_left
 {
 rintro w' ⟨s0, s1, s2, s3, s4⟩
 go_simp
 with_reducible rfl}
 rotate_left
 {
 simp only [Act.put, Q3, i64_w, i32_w]
 rfl}
 refine pure_ (i := 14) (N := some 215) (v := ?_) (a' := ?_) #[true, true, true, true, true, true, true, true, true, true, true, true, true, true, true, false, false] rfl rfl (any_of HT_.out (by kernel_rfl)) (fun _ _ _ h => h) (Or.inl ⟨by rfl, ?_⟩) ?_ ?_
 rotate_left
 {
 intro w'
 go_simp
 with_reducible rfl}
 rotate_left
 {
 simp only [Act.put, Q3, i64_w, i32_w]
 rfl}
 refine pure_ (i := 15) (N := some 216) (v := ?_) (a' := ?_) #[true, true, true, true, true, true, true, true, true, true, true, true, true, true, true, true, false] rfl rfl (any_of HT_.out (by kernel_rfl)) (fun _ _ _ h => h) (Or.inl ⟨by rfl, ?_⟩) ?_ ?_
 rotate_left
 {
 intro w'
 go_simp
 with_reducible rfl}
 rotate_left
 {
 simp only [Act.put, Q3, i64_w, i32_w]
 rfl}
 refine last_ (i := 16) (N := none) #[true, true, true, true, true, true, true, true, true, true, true, true, true, true, true, true, true] rfl rfl (one_of HT_.out (by kernel_rfl)) (by decide) (fun K hK => ?_)
 refine skip_ (w1 := ?_) (by rfl) rfl ?_ ?_
 rotate_left
 {
 go_simp
 rfl}
 refine hK.out _ _ ?_
 clear hK K
 refine done_ (done_of HT_.out (by kernel_rfl)) ?_
 try go_wp2
 go_roundg k6
 case measure => have := HJ2.out; have := HK2.out; have := HK3.out; have := HK4.out; have := HK5.out; have := HK6.out; omega
 case rel => exact ⟨(y195), (wrap64 (x21_6 + 1)), (by first | rfl | (simp; done) | (simp [*]; done)), H', ⟨by have := HJ2.out; have := HK2.out; have := HK3.out; have := HK4.out; have := HK5.out; have := HK6.out; omega⟩, ⟨by (with_reducible repeat (first | apply Ra | apply Rb | apply Rc)); exact HQ158.out⟩, ⟨by (with_reducible repeat (first | apply Kd.N_alloc | apply Kd.N_drewN | apply Kd.N_drew)); exact Kd.N_mono (Kd.N_far (p := ⟨go154, (x21_6 : Int).toNat, none⟩) (Kd.N_mono HO_14.out (fun k_ hk => (⟨hk, fun e_ => hk (by rw [e_]; rfl)⟩ : _ ∧ k_ ≠ go154))) (fun _ hk => hk.2) (.int .i64 (wrap64 ((rd x8_6 x21_6) + (rd ((rd_T97 x14_4 x20_5).f2) x21_6))))) (fun _ hk => hk.1)⟩, ⟨by repeat (first | (with_reducible first | exact HB.out | apply Ba | apply Bb | apply Bc | refine below_set ?_ GB154.out) | exact HB.out)⟩⟩}
 {
 rw [if_neg c153] at H
 exact absurd H (by simp)}}
 {
 rw [if_neg c152] at H
 exact absurd H (by simp)}}
 {
 rw [if_neg c151] at H
 exact absurd H (by simp)}}
 {
 rw [if_neg c150] at H
 exact absurd H (by simp)}}
 {
 rw [if_neg c149] at H
 exact absurd H (by simp)}}
 {
 rw [if_neg c148] at H
 have c148b0 : decide (x21_6 < (l1.length : Int)) = false := decide_eq_false c148
 clear c148
 have H' := Aside0.mk H
 clear H
 go_wp2
 go_roundg k6
 case measure => have := HJ2.out; have := HK2.out; have := HK3.out; have := HK4.out; have := HK5.out; have := HK6.out; omega
 case rel => exact ⟨(x8_6), (wrap64 (x20_5 + 1)), (by first | rfl | (simp; done) | (simp [*]; done)), H', ⟨by have := HJ2.out; have := HK2.out; have := HK3.out; have := HK4.out; have := HK5.out; have := HK6.out; omega⟩, ⟨by (with_reducible repeat (first | apply Ra | apply Rb | apply Rc)); exact HO_8.out⟩, ⟨by (with_reducible repeat (first | apply Kd.N_alloc | apply Kd.N_drewN | apply Kd.N_drew)); exact HO_14.out⟩, ⟨by repeat (first | (with_reducible first | exact HB.out | apply Ba | apply Bb | apply Bc) | exact HB.out)⟩⟩})))}
 {
 rw [if_neg c147] at H
 have c147b0 : decide (x20_5 < (wrap64 ((wrap64 (2 * x6_2)) - 2))) = false := decide_eq_false c147
 clear c147
 simp only [Option.some.injEq, Prod.mk.injEq] at H
 obtain ⟨rfl, rfl⟩ := H
 go_wp2
 go_ret2
 exact ⟨_, by first | rfl | (simp [errW_none, errW_some] <;> rfl) | (simp only [← hji16]; first | rfl | (simp [errW_none, errW_some] <;> rfl)) | (simp [*, errW_none, errW_some] <;> rfl), by (with_reducible repeat (first | apply Ra | apply Rb | apply Rc)); exact HO_8.out, by repeat (first | (with_reducible first | exact HB.out | apply Ba | apply Bb | apply Bc) | exact HB.out)⟩})))})))})))}
 {
 rw [if_neg c19] at H
 exact absurd H (by simp)}}
 {
 rw [if_neg c18] at H
 exact absurd H (by simp)}}}
 {
 rw [if_neg c15] at H
 exact absurd H (by simp)}})))}))
end Go.Proofs.Ytpldapjcojjicaa.Pl
