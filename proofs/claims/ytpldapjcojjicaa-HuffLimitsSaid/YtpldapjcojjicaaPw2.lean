-- printed by a program (see NOTES.md); Lean checks it
import Derived.Test.YtpldapjcojjicaaPw0
import Derived.Test.YtpldapjcojjicaaPw1
namespace Go.Proofs.Ytpldapjcojjicaa.Pl
open Go.RowKit Go.Proofs.YtpldapjcojjicaaW.PrintWords Go.Proofs.YtpldapjcojjicaaW.PrintLast Go.Proofs.YtpldapjcojjicaaW.PrintMore
attribute [local go_sem] max2_int min2_int max_two min_two max_three min_three max_four min_four   -- for this text's walks alone
set_option linter.unusedVariables false
set_option linter.unusedSimpArgs false

/-! ### vitrineref02_Limit: function 41 -/
mutual
def vitrineref02_Limit.j0 : Nat → Int → List Int → Bool → Option (List Int × Int)
  | 0, _, _, _ => none
  | k + 1, x0, x1, x32 => if x32 = true then (some (([] : List Int), 1)) else (vitrineref02_Limit.l0 k x0 x1 0 0)
def vitrineref02_Limit.l0 : Nat → Int → List Int → Int → Int → Option (List Int × Int)
  | 0, _, _, _, _ => none
  | k + 1, x0, x1, x6, x7 => if x7 < (x1.length : Int) then (if 0 ≤ x7 then (if (rd x1 x7) < 0 then (vitrineref02_Limit.j2 k x0 x1 x6 x7 true) else (vitrineref02_Limit.j2 k x0 x1 x6 x7 (decide ((rd x1 x7) > 1000000000)))) else (none)) else (if 0 ≤ x0 then (if x6 > (shl .i64 1 x0) then (some (([] : List Int), 1)) else (if 0 ≤ (x1.length : Int) then (if ((x1.length : Int) : Int).toNat ≤ 35184372088832 then (vitrineref02_Limit.l1 k x0 x1 x6 (List.replicate ((x1.length : Int) : Int).toNat 0) ([] : List (S97)) 0) else (none)) else (none))) else (none))
def vitrineref02_Limit.j2 : Nat → Int → List Int → Int → Int → Bool → Option (List Int × Int)
  | 0, _, _, _, _, _ => none
  | k + 1, x0, x1, x6, x7, x50 => if x50 = true then (some (([] : List Int), 1)) else (if 0 ≤ x7 then (if x7 < (x1.length : Int) then (if (rd x1 x7) > 0 then (vitrineref02_Limit.l0 k x0 x1 (wrap64 (x6 + 1)) (wrap64 (x7 + 1))) else (vitrineref02_Limit.l0 k x0 x1 x6 (wrap64 (x7 + 1)))) else (none)) else (none))
def vitrineref02_Limit.l1 : Nat → Int → List Int → Int → List Int → List (S97) → Int → Option (List Int × Int)
  | 0, _, _, _, _, _, _ => none
  | k + 1, x0, x1, x6, x8, x9, x10 => if x10 < (x1.length : Int) then (if 0 ≤ x10 then (if (rd x1 x10) = 0 then (vitrineref02_Limit.l1 k x0 x1 x6 x8 x9 (wrap64 (x10 + 1))) else (if 0 ≤ (x1.length : Int) then (if ((x1.length : Int) : Int).toNat ≤ 35184372088832 then ((some (List.replicate ((x1.length : Int) : Int).toNat 0 : List Int)).bind fun y129 => (if x10 < (y129.length : Int) then (vitrineref02_Limit.l2 k x0 x1 x6 x8 x9 x10 0 (rd x1 x10) true (y129.set (x10 : Int).toNat 1)) else (none))) else (none)) else (none))) else (none)) else (vitrineref02_Limit.l3 k x0 x1 x6 x8 x9 x9 1)
def vitrineref02_Limit.l2 : Nat → Int → List Int → Int → List Int → List (S97) → Int → Int → Int → Bool → List Int → Option (List Int × Int)
  | 0, _, _, _, _, _, _, _, _, _, _ => none
  | k + 1, x0, x1, x6, x8, x9, x10, x12, x133000, x133001, x133002 => if x12 < (x9.length : Int) then (if 0 ≤ x12 then (if ((rd_T97 x9 x12).f0) ≤ x133000 then (vitrineref02_Limit.l2 k x0 x1 x6 x8 x9 x10 (wrap64 (x12 + 1)) x133000 x133001 x133002) else (if x12 ≤ (x9.length : Int) then ((some (x9.take (x12 : Int).toNat : List (S97))).bind fun y135 => (if ([] : List (S97)).length + y135.length < 3518437208883 then ((some (([] : List (S97)) ++ y135 : List (S97))).bind fun y140 => (if y140.length < 3518437208883 then ((some (y140 ++ [(⟨x133000, x133001, x133002⟩ : S97)] : List (S97))).bind fun y143 => ((some (x9.drop (x12 : Int).toNat : List (S97))).bind fun y146 => (if y143.length + y146.length < 3518437208883 then (if x6 = 1 then (if 0 ≤ x10 then (if x10 < (x8.length : Int) then (some ((x8.set (x10 : Int).toNat 1), 0)) else (none)) else (none)) else (vitrineref02_Limit.l1 k x0 x1 x6 x8 (y143 ++ y146) (wrap64 (x10 + 1)))) else (none)))) else (none))) else (none))) else (none))) else (none)) else (if 0 ≤ x12 then (if x12 ≤ (x9.length : Int) then ((some (x9.take (x12 : Int).toNat : List (S97))).bind fun y155 => (if ([] : List (S97)).length + y155.length < 3518437208883 then ((some (([] : List (S97)) ++ y155 : List (S97))).bind fun y160 => (if y160.length < 3518437208883 then ((some (y160 ++ [(⟨x133000, x133001, x133002⟩ : S97)] : List (S97))).bind fun y163 => ((some (x9.drop (x12 : Int).toNat : List (S97))).bind fun y166 => (if y163.length + y166.length < 3518437208883 then (if x6 = 1 then (if 0 ≤ x10 then (if x10 < (x8.length : Int) then (some ((x8.set (x10 : Int).toNat 1), 0)) else (none)) else (none)) else (vitrineref02_Limit.l1 k x0 x1 x6 x8 (y163 ++ y166) (wrap64 (x10 + 1)))) else (none)))) else (none))) else (none))) else (none)) else (none))
def vitrineref02_Limit.l3 : Nat → Int → List Int → Int → List Int → List (S97) → List (S97) → Int → Option (List Int × Int)
  | 0, _, _, _, _, _, _, _ => none
  | k + 1, x0, x1, x6, x8, x9, x14, x15 => if x15 < x0 then (vitrineref02_Limit.l4 k x0 x1 x6 x8 x9 x14 x15 ([] : List (S97)) 0) else (vitrineref02_Limit.l6 k x1 x6 x8 x14 0)
def vitrineref02_Limit.l4 : Nat → Int → List Int → Int → List Int → List (S97) → List (S97) → Int → List (S97) → Int → Option (List Int × Int)
  | 0, _, _, _, _, _, _, _, _, _ => none
  | k + 1, x0, x1, x6, x8, x9, x14, x15, x16, x17 => if (wrap64 (x17 + 1)) < (x14.length : Int) then (if 0 ≤ x17 then (if x17 < (x14.length : Int) then (if 0 ≤ (wrap64 (x17 + 1)) then (if 0 ≤ (x1.length : Int) then (if ((x1.length : Int) : Int).toNat ≤ 35184372088832 then (vitrineref02_Limit.l5 k x0 x1 x6 x8 x9 x14 x15 x16 x17 0 (wrap64 (((rd_T97 x14 x17).f0) + ((rd_T97 x14 (wrap64 (x17 + 1))).f0))) false (List.replicate ((x1.length : Int) : Int).toNat 0)) else (none)) else (none)) else (none)) else (none)) else (none)) else ((vitrineref02_row.f k x9 x16).bind fun t175 => (vitrineref02_Limit.l3 k x0 x1 x6 x8 x9 t175 (wrap64 (x15 + 1))))
def vitrineref02_Limit.l5 : Nat → Int → List Int → Int → List Int → List (S97) → List (S97) → Int → List (S97) → Int → Int → Int → Bool → List Int → Option (List Int × Int)
  | 0, _, _, _, _, _, _, _, _, _, _, _, _, _ => none
  | k + 1, x0, x1, x6, x8, x9, x14, x15, x16, x17, x19, x184000, x184001, x184002 => if x19 < (x1.length : Int) then (if 0 ≤ x17 then (if x17 < (x14.length : Int) then (if 0 ≤ x19 then (if x19 < (((rd_T97 x14 x17).f2).length : Int) then (if 0 ≤ (wrap64 (x17 + 1)) then (if (wrap64 (x17 + 1)) < (x14.length : Int) then (if x19 < (((rd_T97 x14 (wrap64 (x17 + 1))).f2).length : Int) then (if x19 < (x184002.length : Int) then (vitrineref02_Limit.l5 k x0 x1 x6 x8 x9 x14 x15 x16 x17 (wrap64 (x19 + 1)) x184000 x184001 (x184002.set (x19 : Int).toNat (wrap64 ((rd ((rd_T97 x14 x17).f2) x19) + (rd ((rd_T97 x14 (wrap64 (x17 + 1))).f2) x19))))) else (none)) else (none)) else (none)) else (none)) else (none)) else (none)) else (none)) else (none)) else (if x16.length < 3518437208883 then (vitrineref02_Limit.l4 k x0 x1 x6 x8 x9 x14 x15 (x16 ++ [(⟨x184000, x184001, x184002⟩ : S97)]) (wrap64 (x17 + 2))) else (none))
def vitrineref02_Limit.l6 : Nat → List Int → Int → List Int → List (S97) → Int → Option (List Int × Int)
  | 0, _, _, _, _, _ => none
  | k + 1, x1, x6, x8, x14, x20 => if x20 < (wrap64 ((wrap64 (2 * x6)) - 2)) then (vitrineref02_Limit.l7 k x1 x6 x8 x14 x20 0) else (some (x8, 0))
def vitrineref02_Limit.l7 : Nat → List Int → Int → List Int → List (S97) → Int → Int → Option (List Int × Int)
  | 0, _, _, _, _, _, _ => none
  | k + 1, x1, x6, x8, x14, x20, x21 => if x21 < (x1.length : Int) then (if 0 ≤ x21 then (if x21 < (x8.length : Int) then (if 0 ≤ x20 then (if x20 < (x14.length : Int) then (if x21 < (((rd_T97 x14 x20).f2).length : Int) then (vitrineref02_Limit.l7 k x1 x6 (x8.set (x21 : Int).toNat (wrap64 ((rd x8 x21) + (rd ((rd_T97 x14 x20).f2) x21)))) x14 x20 (wrap64 (x21 + 1))) else (none)) else (none)) else (none)) else (none)) else (none)) else (vitrineref02_Limit.l6 k x1 x6 x8 x14 (wrap64 (x20 + 1)))
end
def vitrineref02_Limit.f (k : Nat) (a0 : Int) (l1 : List Int) : Option (List Int × Int) := if (l1.length : Int) > 288 then (vitrineref02_Limit.j0 k a0 l1 true) else (if a0 < 1 then (vitrineref02_Limit.j0 k a0 l1 true) else (vitrineref02_Limit.j0 k a0 l1 (decide (a0 > 15))))
theorem vitrineref02_Limit.mono_l : ∀ k, (∀ y0 y1 y2, LeO (vitrineref02_Limit.j0 k y0 y1 y2) (vitrineref02_Limit.j0 (k + 1) y0 y1 y2)) ∧ (∀ y0 y1 y2 y3, LeO (vitrineref02_Limit.l0 k y0 y1 y2 y3) (vitrineref02_Limit.l0 (k + 1) y0 y1 y2 y3)) ∧ (∀ y0 y1 y2 y3 y4, LeO (vitrineref02_Limit.j2 k y0 y1 y2 y3 y4) (vitrineref02_Limit.j2 (k + 1) y0 y1 y2 y3 y4)) ∧ (∀ y0 y1 y2 y3 y4 y5, LeO (vitrineref02_Limit.l1 k y0 y1 y2 y3 y4 y5) (vitrineref02_Limit.l1 (k + 1) y0 y1 y2 y3 y4 y5)) ∧ (∀ y0 y1 y2 y3 y4 y5 y6 y7 y8 y9, LeO (vitrineref02_Limit.l2 k y0 y1 y2 y3 y4 y5 y6 y7 y8 y9) (vitrineref02_Limit.l2 (k + 1) y0 y1 y2 y3 y4 y5 y6 y7 y8 y9)) ∧ (∀ y0 y1 y2 y3 y4 y5 y6, LeO (vitrineref02_Limit.l3 k y0 y1 y2 y3 y4 y5 y6) (vitrineref02_Limit.l3 (k + 1) y0 y1 y2 y3 y4 y5 y6)) ∧ (∀ y0 y1 y2 y3 y4 y5 y6 y7 y8, LeO (vitrineref02_Limit.l4 k y0 y1 y2 y3 y4 y5 y6 y7 y8) (vitrineref02_Limit.l4 (k + 1) y0 y1 y2 y3 y4 y5 y6 y7 y8)) ∧ (∀ y0 y1 y2 y3 y4 y5 y6 y7 y8 y9 y10 y11 y12, LeO (vitrineref02_Limit.l5 k y0 y1 y2 y3 y4 y5 y6 y7 y8 y9 y10 y11 y12) (vitrineref02_Limit.l5 (k + 1) y0 y1 y2 y3 y4 y5 y6 y7 y8 y9 y10 y11 y12)) ∧ (∀ y0 y1 y2 y3 y4, LeO (vitrineref02_Limit.l6 k y0 y1 y2 y3 y4) (vitrineref02_Limit.l6 (k + 1) y0 y1 y2 y3 y4)) ∧ (∀ y0 y1 y2 y3 y4 y5, LeO (vitrineref02_Limit.l7 k y0 y1 y2 y3 y4 y5) (vitrineref02_Limit.l7 (k + 1) y0 y1 y2 y3 y4 y5))
  | 0 => ⟨fun _ _ _ r h => by simp [vitrineref02_Limit.j0] at h, fun _ _ _ _ r h => by simp [vitrineref02_Limit.l0] at h, fun _ _ _ _ _ r h => by simp [vitrineref02_Limit.j2] at h, fun _ _ _ _ _ _ r h => by simp [vitrineref02_Limit.l1] at h, fun _ _ _ _ _ _ _ _ _ _ r h => by simp [vitrineref02_Limit.l2] at h, fun _ _ _ _ _ _ _ r h => by simp [vitrineref02_Limit.l3] at h, fun _ _ _ _ _ _ _ _ _ r h => by simp [vitrineref02_Limit.l4] at h, fun _ _ _ _ _ _ _ _ _ _ _ _ _ r h => by simp [vitrineref02_Limit.l5] at h, fun _ _ _ _ _ r h => by simp [vitrineref02_Limit.l6] at h, fun _ _ _ _ _ _ r h => by simp [vitrineref02_Limit.l7] at h⟩
  | k + 1 => by
    obtain ⟨ih0, ih1, ih2, ih3, ih4, ih5, ih6, ih7, ih8, ih9⟩ := vitrineref02_Limit.mono_l k
    refine ⟨?_, ?_, ?_, ?_, ?_, ?_, ?_, ?_, ?_, ?_⟩
    · intro y0 y1 y2
      unfold vitrineref02_Limit.j0
      repeat' first
      | (with_reducible exact ih0 _ _ _)
      | (with_reducible exact ih1 _ _ _ _)
      | (with_reducible exact ih2 _ _ _ _ _)
      | (with_reducible exact ih3 _ _ _ _ _ _)
      | (with_reducible exact ih4 _ _ _ _ _ _ _ _ _ _)
      | (with_reducible exact ih5 _ _ _ _ _ _ _)
      | (with_reducible exact ih6 _ _ _ _ _ _ _ _ _)
      | (with_reducible exact ih7 _ _ _ _ _ _ _ _ _ _ _ _ _)
      | (with_reducible exact ih8 _ _ _ _ _)
      | (with_reducible exact ih9 _ _ _ _ _ _)
      | (with_reducible exact vitrineref02_row.mono _ _ _)
      | (with_reducible exact LeO.refl _)
      | (with_reducible exact LeO.none _)
      | (with_reducible refine LeO.ite ?_ ?_)
      | (with_reducible refine LeO.bind ?_ (fun _ => ?_))
      | exact ih0 _ _ _
      | exact ih1 _ _ _ _
      | exact ih2 _ _ _ _ _
      | exact ih3 _ _ _ _ _ _
      | exact ih4 _ _ _ _ _ _ _ _ _ _
      | exact ih5 _ _ _ _ _ _ _
      | exact ih6 _ _ _ _ _ _ _ _ _
      | exact ih7 _ _ _ _ _ _ _ _ _ _ _ _ _
      | exact ih8 _ _ _ _ _
      | exact ih9 _ _ _ _ _ _
      | exact vitrineref02_row.mono _ _ _
      | exact LeO.none _
      | refine LeO.ite ?_ ?_
      | refine LeO.bind ?_ (fun _ => ?_)
    · intro y0 y1 y2 y3
      unfold vitrineref02_Limit.l0
      repeat' first
      | (with_reducible exact ih0 _ _ _)
      | (with_reducible exact ih1 _ _ _ _)
      | (with_reducible exact ih2 _ _ _ _ _)
      | (with_reducible exact ih3 _ _ _ _ _ _)
      | (with_reducible exact ih4 _ _ _ _ _ _ _ _ _ _)
      | (with_reducible exact ih5 _ _ _ _ _ _ _)
      | (with_reducible exact ih6 _ _ _ _ _ _ _ _ _)
      | (with_reducible exact ih7 _ _ _ _ _ _ _ _ _ _ _ _ _)
      | (with_reducible exact ih8 _ _ _ _ _)
      | (with_reducible exact ih9 _ _ _ _ _ _)
      | (with_reducible exact vitrineref02_row.mono _ _ _)
      | (with_reducible exact LeO.refl _)
      | (with_reducible exact LeO.none _)
      | (with_reducible refine LeO.ite ?_ ?_)
      | (with_reducible refine LeO.bind ?_ (fun _ => ?_))
      | exact ih0 _ _ _
      | exact ih1 _ _ _ _
      | exact ih2 _ _ _ _ _
      | exact ih3 _ _ _ _ _ _
      | exact ih4 _ _ _ _ _ _ _ _ _ _
      | exact ih5 _ _ _ _ _ _ _
      | exact ih6 _ _ _ _ _ _ _ _ _
      | exact ih7 _ _ _ _ _ _ _ _ _ _ _ _ _
      | exact ih8 _ _ _ _ _
      | exact ih9 _ _ _ _ _ _
      | exact vitrineref02_row.mono _ _ _
      | exact LeO.none _
      | refine LeO.ite ?_ ?_
      | refine LeO.bind ?_ (fun _ => ?_)
    · intro y0 y1 y2 y3 y4
      unfold vitrineref02_Limit.j2
      repeat' first
      | (with_reducible exact ih0 _ _ _)
      | (with_reducible exact ih1 _ _ _ _)
      | (with_reducible exact ih2 _ _ _ _ _)
      | (with_reducible exact ih3 _ _ _ _ _ _)
      | (with_reducible exact ih4 _ _ _ _ _ _ _ _ _ _)
      | (with_reducible exact ih5 _ _ _ _ _ _ _)
      | (with_reducible exact ih6 _ _ _ _ _ _ _ _ _)
      | (with_reducible exact ih7 _ _ _ _ _ _ _ _ _ _ _ _ _)
      | (with_reducible exact ih8 _ _ _ _ _)
      | (with_reducible exact ih9 _ _ _ _ _ _)
      | (with_reducible exact vitrineref02_row.mono _ _ _)
      | (with_reducible exact LeO.refl _)
      | (with_reducible exact LeO.none _)
      | (with_reducible refine LeO.ite ?_ ?_)
      | (with_reducible refine LeO.bind ?_ (fun _ => ?_))
      | exact ih0 _ _ _
      | exact ih1 _ _ _ _
      | exact ih2 _ _ _ _ _
      | exact ih3 _ _ _ _ _ _
      | exact ih4 _ _ _ _ _ _ _ _ _ _
      | exact ih5 _ _ _ _ _ _ _
      | exact ih6 _ _ _ _ _ _ _ _ _
      | exact ih7 _ _ _ _ _ _ _ _ _ _ _ _ _
      | exact ih8 _ _ _ _ _
      | exact ih9 _ _ _ _ _ _
      | exact vitrineref02_row.mono _ _ _
      | exact LeO.none _
      | refine LeO.ite ?_ ?_
      | refine LeO.bind ?_ (fun _ => ?_)
    · intro y0 y1 y2 y3 y4 y5
      unfold vitrineref02_Limit.l1
      repeat' first
      | (with_reducible exact ih0 _ _ _)
      | (with_reducible exact ih1 _ _ _ _)
      | (with_reducible exact ih2 _ _ _ _ _)
      | (with_reducible exact ih3 _ _ _ _ _ _)
      | (with_reducible exact ih4 _ _ _ _ _ _ _ _ _ _)
      | (with_reducible exact ih5 _ _ _ _ _ _ _)
      | (with_reducible exact ih6 _ _ _ _ _ _ _ _ _)
      | (with_reducible exact ih7 _ _ _ _ _ _ _ _ _ _ _ _ _)
      | (with_reducible exact ih8 _ _ _ _ _)
      | (with_reducible exact ih9 _ _ _ _ _ _)
      | (with_reducible exact vitrineref02_row.mono _ _ _)
      | (with_reducible exact LeO.refl _)
      | (with_reducible exact LeO.none _)
      | (with_reducible refine LeO.ite ?_ ?_)
      | (with_reducible refine LeO.bind ?_ (fun _ => ?_))
      | exact ih0 _ _ _
      | exact ih1 _ _ _ _
      | exact ih2 _ _ _ _ _
      | exact ih3 _ _ _ _ _ _
      | exact ih4 _ _ _ _ _ _ _ _ _ _
      | exact ih5 _ _ _ _ _ _ _
      | exact ih6 _ _ _ _ _ _ _ _ _
      | exact ih7 _ _ _ _ _ _ _ _ _ _ _ _ _
      | exact ih8 _ _ _ _ _
      | exact ih9 _ _ _ _ _ _
      | exact vitrineref02_row.mono _ _ _
      | exact LeO.none _
      | refine LeO.ite ?_ ?_
      | refine LeO.bind ?_ (fun _ => ?_)
    · intro y0 y1 y2 y3 y4 y5 y6 y7 y8 y9
      unfold vitrineref02_Limit.l2
      repeat' first
      | (with_reducible exact ih0 _ _ _)
      | (with_reducible exact ih1 _ _ _ _)
      | (with_reducible exact ih2 _ _ _ _ _)
      | (with_reducible exact ih3 _ _ _ _ _ _)
      | (with_reducible exact ih4 _ _ _ _ _ _ _ _ _ _)
      | (with_reducible exact ih5 _ _ _ _ _ _ _)
      | (with_reducible exact ih6 _ _ _ _ _ _ _ _ _)
      | (with_reducible exact ih7 _ _ _ _ _ _ _ _ _ _ _ _ _)
      | (with_reducible exact ih8 _ _ _ _ _)
      | (with_reducible exact ih9 _ _ _ _ _ _)
      | (with_reducible exact vitrineref02_row.mono _ _ _)
      | (with_reducible exact LeO.refl _)
      | (with_reducible exact LeO.none _)
      | (with_reducible refine LeO.ite ?_ ?_)
      | (with_reducible refine LeO.bind ?_ (fun _ => ?_))
      | exact ih0 _ _ _
      | exact ih1 _ _ _ _
      | exact ih2 _ _ _ _ _
      | exact ih3 _ _ _ _ _ _
      | exact ih4 _ _ _ _ _ _ _ _ _ _
      | exact ih5 _ _ _ _ _ _ _
      | exact ih6 _ _ _ _ _ _ _ _ _
      | exact ih7 _ _ _ _ _ _ _ _ _ _ _ _ _
      | exact ih8 _ _ _ _ _
      | exact ih9 _ _ _ _ _ _
      | exact vitrineref02_row.mono _ _ _
      | exact LeO.none _
      | refine LeO.ite ?_ ?_
      | refine LeO.bind ?_ (fun _ => ?_)
    · intro y0 y1 y2 y3 y4 y5 y6
      unfold vitrineref02_Limit.l3
      repeat' first
      | (with_reducible exact ih0 _ _ _)
      | (with_reducible exact ih1 _ _ _ _)
      | (with_reducible exact ih2 _ _ _ _ _)
      | (with_reducible exact ih3 _ _ _ _ _ _)
      | (with_reducible exact ih4 _ _ _ _ _ _ _ _ _ _)
      | (with_reducible exact ih5 _ _ _ _ _ _ _)
      | (with_reducible exact ih6 _ _ _ _ _ _ _ _ _)
      | (with_reducible exact ih7 _ _ _ _ _ _ _ _ _ _ _ _ _)
      | (with_reducible exact ih8 _ _ _ _ _)
      | (with_reducible exact ih9 _ _ _ _ _ _)
      | (with_reducible exact vitrineref02_row.mono _ _ _)
      | (with_reducible exact LeO.refl _)
      | (with_reducible exact LeO.none _)
      | (with_reducible refine LeO.ite ?_ ?_)
      | (with_reducible refine LeO.bind ?_ (fun _ => ?_))
      | exact ih0 _ _ _
      | exact ih1 _ _ _ _
      | exact ih2 _ _ _ _ _
      | exact ih3 _ _ _ _ _ _
      | exact ih4 _ _ _ _ _ _ _ _ _ _
      | exact ih5 _ _ _ _ _ _ _
      | exact ih6 _ _ _ _ _ _ _ _ _
      | exact ih7 _ _ _ _ _ _ _ _ _ _ _ _ _
      | exact ih8 _ _ _ _ _
      | exact ih9 _ _ _ _ _ _
      | exact vitrineref02_row.mono _ _ _
      | exact LeO.none _
      | refine LeO.ite ?_ ?_
      | refine LeO.bind ?_ (fun _ => ?_)
    · intro y0 y1 y2 y3 y4 y5 y6 y7 y8
      unfold vitrineref02_Limit.l4
      repeat' first
      | (with_reducible exact ih0 _ _ _)
      | (with_reducible exact ih1 _ _ _ _)
      | (with_reducible exact ih2 _ _ _ _ _)
      | (with_reducible exact ih3 _ _ _ _ _ _)
      | (with_reducible exact ih4 _ _ _ _ _ _ _ _ _ _)
      | (with_reducible exact ih5 _ _ _ _ _ _ _)
      | (with_reducible exact ih6 _ _ _ _ _ _ _ _ _)
      | (with_reducible exact ih7 _ _ _ _ _ _ _ _ _ _ _ _ _)
      | (with_reducible exact ih8 _ _ _ _ _)
      | (with_reducible exact ih9 _ _ _ _ _ _)
      | (with_reducible exact vitrineref02_row.mono _ _ _)
      | (with_reducible exact LeO.refl _)
      | (with_reducible exact LeO.none _)
      | (with_reducible refine LeO.ite ?_ ?_)
      | (with_reducible refine LeO.bind ?_ (fun _ => ?_))
      | exact ih0 _ _ _
      | exact ih1 _ _ _ _
      | exact ih2 _ _ _ _ _
      | exact ih3 _ _ _ _ _ _
      | exact ih4 _ _ _ _ _ _ _ _ _ _
      | exact ih5 _ _ _ _ _ _ _
      | exact ih6 _ _ _ _ _ _ _ _ _
      | exact ih7 _ _ _ _ _ _ _ _ _ _ _ _ _
      | exact ih8 _ _ _ _ _
      | exact ih9 _ _ _ _ _ _
      | exact vitrineref02_row.mono _ _ _
      | exact LeO.none _
      | refine LeO.ite ?_ ?_
      | refine LeO.bind ?_ (fun _ => ?_)
    · intro y0 y1 y2 y3 y4 y5 y6 y7 y8 y9 y10 y11 y12
      unfold vitrineref02_Limit.l5
      repeat' first
      | (with_reducible exact ih0 _ _ _)
      | (with_reducible exact ih1 _ _ _ _)
      | (with_reducible exact ih2 _ _ _ _ _)
      | (with_reducible exact ih3 _ _ _ _ _ _)
      | (with_reducible exact ih4 _ _ _ _ _ _ _ _ _ _)
      | (with_reducible exact ih5 _ _ _ _ _ _ _)
      | (with_reducible exact ih6 _ _ _ _ _ _ _ _ _)
      | (with_reducible exact ih7 _ _ _ _ _ _ _ _ _ _ _ _ _)
      | (with_reducible exact ih8 _ _ _ _ _)
      | (with_reducible exact ih9 _ _ _ _ _ _)
      | (with_reducible exact vitrineref02_row.mono _ _ _)
      | (with_reducible exact LeO.refl _)
      | (with_reducible exact LeO.none _)
      | (with_reducible refine LeO.ite ?_ ?_)
      | (with_reducible refine LeO.bind ?_ (fun _ => ?_))
      | exact ih0 _ _ _
      | exact ih1 _ _ _ _
      | exact ih2 _ _ _ _ _
      | exact ih3 _ _ _ _ _ _
      | exact ih4 _ _ _ _ _ _ _ _ _ _
      | exact ih5 _ _ _ _ _ _ _
      | exact ih6 _ _ _ _ _ _ _ _ _
      | exact ih7 _ _ _ _ _ _ _ _ _ _ _ _ _
      | exact ih8 _ _ _ _ _
      | exact ih9 _ _ _ _ _ _
      | exact vitrineref02_row.mono _ _ _
      | exact LeO.none _
      | refine LeO.ite ?_ ?_
      | refine LeO.bind ?_ (fun _ => ?_)
    · intro y0 y1 y2 y3 y4
      unfold vitrineref02_Limit.l6
      repeat' first
      | (with_reducible exact ih0 _ _ _)
      | (with_reducible exact ih1 _ _ _ _)
      | (with_reducible exact ih2 _ _ _ _ _)
      | (with_reducible exact ih3 _ _ _ _ _ _)
      | (with_reducible exact ih4 _ _ _ _ _ _ _ _ _ _)
      | (with_reducible exact ih5 _ _ _ _ _ _ _)
      | (with_reducible exact ih6 _ _ _ _ _ _ _ _ _)
      | (with_reducible exact ih7 _ _ _ _ _ _ _ _ _ _ _ _ _)
      | (with_reducible exact ih8 _ _ _ _ _)
      | (with_reducible exact ih9 _ _ _ _ _ _)
      | (with_reducible exact vitrineref02_row.mono _ _ _)
      | (with_reducible exact LeO.refl _)
      | (with_reducible exact LeO.none _)
      | (with_reducible refine LeO.ite ?_ ?_)
      | (with_reducible refine LeO.bind ?_ (fun _ => ?_))
      | exact ih0 _ _ _
      | exact ih1 _ _ _ _
      | exact ih2 _ _ _ _ _
      | exact ih3 _ _ _ _ _ _
      | exact ih4 _ _ _ _ _ _ _ _ _ _
      | exact ih5 _ _ _ _ _ _ _
      | exact ih6 _ _ _ _ _ _ _ _ _
      | exact ih7 _ _ _ _ _ _ _ _ _ _ _ _ _
      | exact ih8 _ _ _ _ _
      | exact ih9 _ _ _ _ _ _
      | exact vitrineref02_row.mono _ _ _
      | exact LeO.none _
      | refine LeO.ite ?_ ?_
      | refine LeO.bind ?_ (fun _ => ?_)
    · intro y0 y1 y2 y3 y4 y5
      unfold vitrineref02_Limit.l7
      repeat' first
      | (with_reducible exact ih0 _ _ _)
      | (with_reducible exact ih1 _ _ _ _)
      | (with_reducible exact ih2 _ _ _ _ _)
      | (with_reducible exact ih3 _ _ _ _ _ _)
      | (with_reducible exact ih4 _ _ _ _ _ _ _ _ _ _)
      | (with_reducible exact ih5 _ _ _ _ _ _ _)
      | (with_reducible exact ih6 _ _ _ _ _ _ _ _ _)
      | (with_reducible exact ih7 _ _ _ _ _ _ _ _ _ _ _ _ _)
      | (with_reducible exact ih8 _ _ _ _ _)
      | (with_reducible exact ih9 _ _ _ _ _ _)
      | (with_reducible exact vitrineref02_row.mono _ _ _)
      | (with_reducible exact LeO.refl _)
      | (with_reducible exact LeO.none _)
      | (with_reducible refine LeO.ite ?_ ?_)
      | (with_reducible refine LeO.bind ?_ (fun _ => ?_))
      | exact ih0 _ _ _
      | exact ih1 _ _ _ _
      | exact ih2 _ _ _ _ _
      | exact ih3 _ _ _ _ _ _
      | exact ih4 _ _ _ _ _ _ _ _ _ _
      | exact ih5 _ _ _ _ _ _ _
      | exact ih6 _ _ _ _ _ _ _ _ _
      | exact ih7 _ _ _ _ _ _ _ _ _ _ _ _ _
      | exact ih8 _ _ _ _ _
      | exact ih9 _ _ _ _ _ _
      | exact vitrineref02_row.mono _ _ _
      | exact LeO.none _
      | refine LeO.ite ?_ ?_
      | refine LeO.bind ?_ (fun _ => ?_)
theorem vitrineref02_Limit.mono : ∀ a0 a1 k, LeO (vitrineref02_Limit.f k a0 a1) (vitrineref02_Limit.f (k + 1) a0 a1) := by
  intro a0 a1 k
  obtain ⟨ih0, ih1, ih2, ih3, ih4, ih5, ih6, ih7, ih8, ih9⟩ := vitrineref02_Limit.mono_l k
  unfold vitrineref02_Limit.f
  repeat' first
      | (with_reducible exact ih0 _ _ _)
      | (with_reducible exact ih1 _ _ _ _)
      | (with_reducible exact ih2 _ _ _ _ _)
      | (with_reducible exact ih3 _ _ _ _ _ _)
      | (with_reducible exact ih4 _ _ _ _ _ _ _ _ _ _)
      | (with_reducible exact ih5 _ _ _ _ _ _ _)
      | (with_reducible exact ih6 _ _ _ _ _ _ _ _ _)
      | (with_reducible exact ih7 _ _ _ _ _ _ _ _ _ _ _ _ _)
      | (with_reducible exact ih8 _ _ _ _ _)
      | (with_reducible exact ih9 _ _ _ _ _ _)
      | (with_reducible exact vitrineref02_row.mono _ _ _)
      | (with_reducible exact LeO.refl _)
      | (with_reducible exact LeO.none _)
      | (with_reducible refine LeO.ite ?_ ?_)
      | (with_reducible refine LeO.bind ?_ (fun _ => ?_))
      | exact ih0 _ _ _
      | exact ih1 _ _ _ _
      | exact ih2 _ _ _ _ _
      | exact ih3 _ _ _ _ _ _
      | exact ih4 _ _ _ _ _ _ _ _ _ _
      | exact ih5 _ _ _ _ _ _ _
      | exact ih6 _ _ _ _ _ _ _ _ _
      | exact ih7 _ _ _ _ _ _ _ _ _ _ _ _ _
      | exact ih8 _ _ _ _ _
      | exact ih9 _ _ _ _ _ _
      | exact vitrineref02_row.mono _ _ _
      | exact LeO.none _
      | refine LeO.ite ?_ ?_
      | refine LeO.bind ?_ (fun _ => ?_)
def vitrineref02_Limit.T19 : Bool × List (List Nat × List Nat) := (true, [([], []), ([], []), ([0, 1], [0, 1]), ([2], [2]), ([], []), ([4], [4]), ([5, 5], [5]), ([3, 6], [3, 6]), ([], []), ([8, 7, 0, 1, 2, 3, 4, 5, 6, 7, 8], [7, 8])])
def vitrineref02_Limit.B19 : List Nat := [0, 0, 3, 7, 0, 16, 48, 127, 0, 511]
theorem vitrineref02_Limit.tab19 : rtab .any (opsOf Try.f41 19) = vitrineref02_Limit.T19 := by kernel_rfl
theorem vitrineref02_Limit.bits19 : waitsOk vitrineref02_Limit.T19.2 vitrineref02_Limit.B19 = true := by kernel_rfl
def vitrineref02_Limit.T22 : Bool × List (List Nat × List Nat) := (true, [([], []), ([], []), ([1], [1]), ([0, 2], [0, 2]), ([3], [3]), ([4], [4]), ([4], [4]), ([5, 6, 4], [4, 5, 6]), ([7, 4], [4, 7]), ([8, 4], [4, 8]), ([4], [4]), ([10, 4], [4, 10]), ([9, 11, 4], [4, 9, 11]), ([4, 12], [4, 12])])
def vitrineref02_Limit.B22 : List Nat := [0, 0, 2, 7, 15, 31, 31, 127, 255, 511, 31, 1055, 4095, 8191]
theorem vitrineref02_Limit.tab22 : rtab .any (opsOf Try.f41 22) = vitrineref02_Limit.T22 := by kernel_rfl
theorem vitrineref02_Limit.bits22 : waitsOk vitrineref02_Limit.T22.2 vitrineref02_Limit.B22 = true := by kernel_rfl
def vitrineref02_Limit.T39 : Bool × List (List Nat × List Nat) := (true, [([], []), ([], []), ([0, 1], [0, 1]), ([2], [2]), ([3], [3]), ([], []), ([], []), ([6], [6]), ([5, 7], [5, 7]), ([8], [8]), ([9], [9]), ([4, 10], [4, 10]), ([], []), ([12], [12]), ([13, 13], [13]), ([11, 14], [11, 14]), ([], []), ([16, 15, 0, 1, 2, 3, 4, 5, 6, 7, 8, 9, 10, 11, 12, 13, 14, 15, 16], [15, 16])])
def vitrineref02_Limit.B39 : List Nat := [0, 0, 3, 7, 15, 0, 0, 64, 224, 480, 992, 2047, 0, 4096, 12288, 32767, 0, 131071]
theorem vitrineref02_Limit.tab39 : rtab .any (opsOf Try.f41 39) = vitrineref02_Limit.T39 := by kernel_rfl
theorem vitrineref02_Limit.bits39 : waitsOk vitrineref02_Limit.T39.2 vitrineref02_Limit.B39 = true := by kernel_rfl
def vitrineref02_Limit.T43 : Bool × List (List Nat × List Nat) := (true, [([], []), ([0], [0]), ([], []), ([], []), ([], []), ([3, 4], [3, 4]), ([5], [5]), ([6], [6]), ([], []), ([7, 8], [7, 8]), ([9], [9]), ([], []), ([], []), ([12], [12]), ([11, 13], [11, 13]), ([14], [14]), ([15], [15]), ([], []), ([16, 17], [16, 17]), ([18], [18]), ([10, 19], [10, 19]), ([1, 2, 0, 1, 2, 3, 4, 5, 6, 7, 8, 9, 10, 11, 12, 13, 14, 15, 16, 17, 18, 19, 20], [1, 2]), ([21, 20, 0, 1, 2, 3, 4, 5, 6, 7, 8, 9, 10, 11, 12, 13, 14, 15, 16, 17, 18, 19, 20], [20, 21])])
def vitrineref02_Limit.B43 : List Nat := [0, 1, 0, 0, 0, 24, 56, 120, 0, 504, 1016, 0, 0, 4096, 14336, 30720, 63488, 0, 260096, 522240, 1048568, 2097151, 4194303]
theorem vitrineref02_Limit.tab43 : rtab .any (opsOf Try.f41 43) = vitrineref02_Limit.T43 := by kernel_rfl
theorem vitrineref02_Limit.bits43 : waitsOk vitrineref02_Limit.T43.2 vitrineref02_Limit.B43 = true := by kernel_rfl
def vitrineref02_Limit.T52 : Bool × List (List Nat × List Nat) := (true, [([], []), ([], []), ([], []), ([], []), ([2, 3], [2, 3]), ([4], [4]), ([], []), ([], []), ([6, 7], [6, 7]), ([8], [8]), ([9], [9]), ([], []), ([10, 11], [10, 11]), ([12], [12]), ([5, 13], [5, 13]), ([0, 1, 0, 1, 2, 3, 4, 5, 6, 7, 8, 9, 10, 11, 12, 13, 14], [0, 1]), ([15, 14, 0, 1, 2, 3, 4, 5, 6, 7, 8, 9, 10, 11, 12, 13, 14], [14, 15])])
def vitrineref02_Limit.B52 : List Nat := [0, 0, 0, 0, 12, 28, 0, 0, 192, 448, 960, 0, 4032, 8128, 16380, 32767, 65535]
theorem vitrineref02_Limit.tab52 : rtab .any (opsOf Try.f41 52) = vitrineref02_Limit.T52 := by kernel_rfl
theorem vitrineref02_Limit.bits52 : waitsOk vitrineref02_Limit.T52.2 vitrineref02_Limit.B52 = true := by kernel_rfl
end Go.Proofs.Ytpldapjcojjicaa.Pl
