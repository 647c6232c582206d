-- printed by a program (see NOTES.md); Lean checks it
import Derived.Test.YtpldapjcojjicaaPm0
namespace Go.Proofs.Ytpldapjcojjicaa.Pb
open Go.RowKit Go.Proofs.YtpldapjcojjicaaW.PrintWords Go.Proofs.YtpldapjcojjicaaW.PrintLast Go.Proofs.YtpldapjcojjicaaW.PrintMore
attribute [local go_sem] max2_int min2_int max_two min_two max_three min_three max_four min_four   -- for this text's walks alone
set_option linter.unusedVariables false
set_option linter.unusedSimpArgs false
open Go.Proofs.Ytpldapjcojjicaa.Pl (errW errW_none errW_some)

/-- A state of type 30 at block g of W; what its slices lead to came in by w0. -/
def IsS30 (w0 W : World) (g : Nat) (f0 : ByteArray) (f1 : Int) : Prop := W.heap[g]? = some (.cells #[.string f0, .int .i64 f1] 30 (0, 0)) ∧ w0.heap.size ≤ g
theorem IsS30.grown {w0 W : World} {g : Nat} {f0 : ByteArray} {f1 : Int} {W1 : World} {row : Option Nat} (h : IsS30 w0 W g f0 f1) (hw : W.grownBy W1 row) (hne : some g ≠ row) : IsS30 w0 W1 g f0 f1 := by
  obtain ⟨hb, hg⟩ := h
  exact ⟨blk_grown hb hw hne, hg⟩
theorem IsS30.own_neN {w0 W : World} {g : Nat} {f0 : ByteArray} {f1 : Int} {α : Type} {d : Kd α} {e : Nat} {base : Nat} {ok : Nat → Prop} {v : Value} {xs : List α} (h : IsS30 w0 W g f0 f1) (ho : Kd.N d e W base ok v xs) (ht : e ≠ 30) : some g ≠ v.ownBlock := by
  obtain ⟨hb, hg⟩ := h
  exact Kd.N_ne ho hb ht
theorem IsS30.fresh {w0 W : World} {g : Nat} {f0 : ByteArray} {f1 : Int} (h : IsS30 w0 W g f0 f1) : ∀ k, W.heap.size ≤ k → k ≠ g := by
  obtain ⟨hb, hg⟩ := h
  exact Kd.freshB hb
theorem IsS30.kept {w0 W : World} {g : Nat} {f0 : ByteArray} {f1 : Int} {W1 : World} {S : Nat → Prop} (h : IsS30 w0 W g f0 f1) (hk : Kept W W1 S) (hne : ¬ S g) : IsS30 w0 W1 g f0 f1 := by
  obtain ⟨hb, hg⟩ := h
  exact ⟨blk_kept hb hk hne, hg⟩
theorem IsS30.below {w0 W : World} {g : Nat} {f0 : ByteArray} {f1 : Int} {W1 : World} (h : IsS30 w0 W g f0 f1) (hw : Below W.heap.size W W1) : IsS30 w0 W1 g f0 f1 := h.grown (grown_of_below hw none) (by simp)
theorem IsS30.alloc {w0 W : World} {g : Nat} {f0 : ByteArray} {f1 : Int} (h : IsS30 w0 W g f0 f1) (o : Obj) : IsS30 w0 (W.alloc o) g f0 f1 := h.below (below_alloc (Below.refl _ _) o)
theorem IsS30.drewN {w0 W : World} {g : Nat} {f0 : ByteArray} {f1 : Int} (h : IsS30 w0 W g f0 f1) (m : Nat) : IsS30 w0 (W.drewN m) g f0 f1 := h
theorem IsS30.drew {w0 W : World} {g : Nat} {f0 : ByteArray} {f1 : Int} (h : IsS30 w0 W g f0 f1) : IsS30 w0 W.drew g f0 f1 := h
theorem IsS30.at_ {w0 W : World} {g : Nat} {f0 : ByteArray} {f1 : Int} {w' : World} {m : Nat} (hq : W.drewN m = w') (h : IsS30 w0 W g f0 f1) : IsS30 w0 w' g f0 f1 := by subst hq; exact IsS30.drewN h m
theorem IsS30.apart {w0 W : World} {g : Nat} {f0 : ByteArray} {f1 : Int} {α : Type} {d : Kd α} {e : Nat} {base : Nat} {ok : Nat → Prop} {v : Value} {xs : List α} (h : IsS30 w0 W g f0 f1) (ho : d.R e W base ok v xs) (ht : ∀ q, q ∈ e :: d.E → q ≠ 30) : d.R e W base (fun k => ok k ∧ k ≠ g) v xs := by
  obtain ⟨hb, hg⟩ := h
  exact Kd.R_types ho hb ht
theorem IsS30.own_ne {w0 W : World} {g : Nat} {f0 : ByteArray} {f1 : Int} {α : Type} {d : Kd α} {e : Nat} {base : Nat} {ok : Nat → Prop} {v : Value} {xs : List α} (h : IsS30 w0 W g f0 f1) (ho : d.R e W base ok v xs) (ht : e ≠ 30) : some g ≠ v.ownBlock := by
  obtain ⟨hb, hg⟩ := h
  exact Kd.R_ne ho hb ht
theorem IsS30.apartQ {w0 W : World} {g : Nat} {f0 : ByteArray} {f1 : Int} {α : Type} {d : Kd α} {e : Nat} {base : Nat} {ok : Nat → Prop} {v : Value} {xs : List α} (h : IsS30 w0 W g f0 f1) (ho : d.Q e W base ok v xs) (ht : ∀ q, q ∈ e :: d.E → q ≠ 30) : d.Q e W base (fun k => ok k ∧ k ≠ g) v xs := by
  obtain ⟨hb, hg⟩ := h
  exact Kd.Q_types ho hb ht
theorem IsS30.own_neQ {w0 W : World} {g : Nat} {f0 : ByteArray} {f1 : Int} {α : Type} {d : Kd α} {e : Nat} {base : Nat} {ok : Nat → Prop} {v : Value} {xs : List α} (h : IsS30 w0 W g f0 f1) (ho : d.Q e W base ok v xs) (ht : e ≠ 30) : some g ≠ v.ownBlock := by
  obtain ⟨hb, hg⟩ := h
  exact Kd.Q_ne ho hb ht
theorem IsS30.apartS {w0 W : World} {g : Nat} {f0 : ByteArray} {f1 : Int} {α : Type} {d : Kd α} {e : Nat} {base : Nat} {ok : Nat → Prop} {v : Value} {xs : List α} (h : IsS30 w0 W g f0 f1) (ho : d.S e W base ok v xs) (ht : ∀ q, q ∈ e :: d.E → q ≠ 30) : d.S e W base (fun k => ok k ∧ k ≠ g) v xs := by
  obtain ⟨hb, hg⟩ := h
  exact Kd.S_types ho hb ht
theorem IsS30.own_neS {w0 W : World} {g : Nat} {f0 : ByteArray} {f1 : Int} {α : Type} {d : Kd α} {e : Nat} {base : Nat} {ok : Nat → Prop} {v : Value} {xs : List α} (h : IsS30 w0 W g f0 f1) (ho : d.S e W base ok v xs) (ht : e ≠ 30) : some g ≠ v.ownBlock := by
  obtain ⟨hb, hg⟩ := h
  exact Kd.S_ne ho hb ht
theorem IsS30.lt {w0 W : World} {g : Nat} {f0 : ByteArray} {f1 : Int} (h : IsS30 w0 W g f0 f1) : g < W.heap.size := by
  obtain ⟨hb, hg⟩ := h
  exact blk_lt hb
theorem IsS30.ge {w0 W : World} {g : Nat} {f0 : ByteArray} {f1 : Int} (h : IsS30 w0 W g f0 f1) : w0.heap.size ≤ g := by
  obtain ⟨hb, hg⟩ := h
  exact hg
theorem IsS30.ne_blk {w0 W : World} {g : Nat} {f0 : ByteArray} {f1 : Int} {a : Nat} {cs : Array Value} {t : TypeId} {fr : Nat × Nat} (h : IsS30 w0 W g f0 f1) (hb2 : W.heap[a]? = some (.cells cs t fr)) (ht : t ≠ 30) : g ≠ a := by
  obtain ⟨hb, hg⟩ := h
  rintro rfl
  rw [hb] at hb2
  injection hb2 with hb2
  injection hb2 with _ ht2
  exact ht ht2.symm
theorem IsS30.far {w0 W : World} {g : Nat} {f0 : ByteArray} {f1 : Int} {p : Addr} (h : IsS30 w0 W g f0 f1) (hne : g ≠ p.block) (u : Value) : IsS30 w0 (W.setCell p u) g f0 f1 := by
  obtain ⟨hb, hg⟩ := h
  exact ⟨blk_far hb hne u, hg⟩
theorem cellS30_0 {W : World} {g : Nat} {f0 : ByteArray} {f1 : Int} (h : W.heap[g]? = some (.cells #[.string f0, .int .i64 f1] 30 (0, 0))) : W.cell? ⟨g, 0, none⟩ = some (.string f0) := (blk_cell h 0).trans rfl
theorem IsS30.set_0 {w0 W : World} {g : Nat} {f0 : ByteArray} {f1 : Int} (h : IsS30 w0 W g f0 f1) (x : ByteArray) : IsS30 w0 (W.setCell ⟨g, 0, none⟩ (.string x)) g x f1 := by
  obtain ⟨hb, hg⟩ := h
  exact ⟨by simpa using blk_set hb 0 (.string x), hg⟩
theorem cellS30_1 {W : World} {g : Nat} {f0 : ByteArray} {f1 : Int} (h : W.heap[g]? = some (.cells #[.string f0, .int .i64 f1] 30 (0, 0))) : W.cell? ⟨g, 1, none⟩ = some (.int .i64 f1) := (blk_cell h 1).trans rfl
theorem IsS30.set_1 {w0 W : World} {g : Nat} {f0 : ByteArray} {f1 : Int} (h : IsS30 w0 W g f0 f1) (x : Int) : IsS30 w0 (W.setCell ⟨g, 1, none⟩ (.int .i64 x)) g f0 x := by
  obtain ⟨hb, hg⟩ := h
  exact ⟨by simpa using blk_set hb 1 (.int .i64 x), hg⟩
theorem IsS30.new (w0 W : World) (f0 : ByteArray) (f1 : Int) (hB : Below w0.heap.size w0 W) : IsS30 w0 (W.alloc (.cells #[.string f0, .int .i64 f1] 30)) W.heap.size f0 f1 := ⟨by simpa using heap_alloc_new W _, hB.size⟩

/-! ### vitrineref01_Reader_Left: function 24 -/
def vitrineref01_Reader_Left.f (s0_0 : ByteArray) (s0_1 : Int) : Option (Int × ByteArray × Int) := some (wrap64 ((wrap64 (8 * (s0_0.size : Int))) - s0_1), s0_0, s0_1)
set_option maxHeartbeats 8000000 in
set_option maxRecDepth 100000 in
theorem vitrineref01_Reader_Left.calls (g : Nat) (s0_0 : ByteArray) (s0_1 : Int) (r1 : Int) (r2 : ByteArray) (r3 : Int) (w0 w : World) (hI : IsS30 w0 w g s0_0 s0_1) (hB : Below w0.heap.size w0 w) (h : vitrineref01_Reader_Left.f s0_0 s0_1 = some (r1, r2, r3)) :
    Calls Try.prog 24 #[.pointer (some ⟨g, 0, none⟩)] w fun e w' => e = .returned (.int .i64 r1) ∧ IsS30 w0 w' g r2 r3 ∧ Below w0.heap.size w0 w' ∧ KeepBut w w' g none := by
  have HI0 := Aside0.mk hI
  have HK := Aside0.mk (KeepBut.refl w g none)
  have HL := Aside0.mk hB.size
  clear hI
  have HW0 := Aside0.mk hB.size
  have HB := Aside0.mk hB
  clear hB
  have H : (some (wrap64 ((wrap64 (8 * (s0_0.size : Int))) - s0_1), s0_0, s0_1)) = some (r1, r2, r3) := h
  clear h
  simp only [Option.some.injEq, Prod.mk.injEq] at H
  obtain ⟨rfl, rfl, rfl⟩ := H
  obtain ⟨HGz2, hgz2⟩ := HI0.out
  have hcz2_0 := cellS30_0 HGz2
  have hcz2_1 := cellS30_1 HGz2
  have hfz2_0 := blk_frozen HGz2 0
  have hfz2_1 := blk_frozen HGz2 1
  clear HGz2 hgz2
  go_enter Try.func24, Try.ntmps24
  go_wp2
  repeat (go_quiet (fail); try go_wp2)
  go_ret
  exact ⟨by first | rfl | (simp [errW_none, errW_some] <;> rfl) | (simp [*, errW_none, errW_some] <;> rfl), by repeat (first | (with_reducible first | exact HI0.out | apply IsS30.alloc | apply IsS30.drewN | apply IsS30.drew | apply IsS30.set_0 | apply IsS30.set_1) | exact HI0.out), by repeat (first | (with_reducible first | exact HB.out | apply below_alloc | apply pw_below_drewN | apply below_drew1 | refine below_set ?_ (IsS30.ge HI0.out)) | exact HB.out), by repeat (first | (with_reducible first | exact HK.out | apply KeepBut.set_ | apply keep_drewN | apply keep_drew | apply keep_alloc) | exact HK.out)⟩

/-! ### vitrineref01_Reader_Bits: function 22 -/
mutual
def vitrineref01_Reader_Bits.j0 : Nat → Int → Bool → ByteArray → Int → Option (Int × Int × ByteArray × Int)
  | 0, _, _, _, _ => none
  | k + 1, x1, x13, x1000, x1001 => if x13 = true then (some (0, 1, x1000, x1001)) else ((vitrineref01_Reader_Left.f x1000 x1001).bind fun bt112 => (if x1 > bt112.1 then (some (0, 3, bt112.2.1, bt112.2.2)) else (vitrineref01_Reader_Bits.l0 k x1 0 0 bt112.2.1 bt112.2.2)))
def vitrineref01_Reader_Bits.l0 : Nat → Int → Int → Int → ByteArray → Int → Option (Int × Int × ByteArray × Int)
  | 0, _, _, _, _, _ => none
  | k + 1, x1, x6, x7, x1000, x1001 => if x7 < x1 then (if 0 ≤ (wrap64 (Int.tdiv (wrap64 (x1001 + x7)) 8)) then (if (wrap64 (Int.tdiv (wrap64 (x1001 + x7)) 8)) < (x1000.size : Int) then (if 0 ≤ (Int.tmod (wrap64 (x1001 + x7)) 8) then (if 0 ≤ x7 then (vitrineref01_Reader_Bits.l0 k x1 (Go.bits .or .i64 x6 (shl .i64 (wrap64 (Go.bits .and .u8 (shr .u8 (bt x1000 (wrap64 (Int.tdiv (wrap64 (x1001 + x7)) 8))) (Int.tmod (wrap64 (x1001 + x7)) 8)) 1)) x7)) (wrap64 (x7 + 1)) x1000 x1001) else (none)) else (none)) else (none)) else (none)) else (some (x6, 0, x1000, wrap64 (x1001 + x1)))
end
def vitrineref01_Reader_Bits.f (k : Nat) (s0_0 : ByteArray) (s0_1 : Int) (a1 : Int) : Option (Int × Int × ByteArray × Int) := if a1 < 0 then (vitrineref01_Reader_Bits.j0 k a1 true s0_0 s0_1) else (vitrineref01_Reader_Bits.j0 k a1 (decide (a1 > 24)) s0_0 s0_1)
theorem vitrineref01_Reader_Bits.mono_l : ∀ k, (∀ y0 y1 y2 y3, LeO (vitrineref01_Reader_Bits.j0 k y0 y1 y2 y3) (vitrineref01_Reader_Bits.j0 (k + 1) y0 y1 y2 y3)) ∧ (∀ y0 y1 y2 y3 y4, LeO (vitrineref01_Reader_Bits.l0 k y0 y1 y2 y3 y4) (vitrineref01_Reader_Bits.l0 (k + 1) y0 y1 y2 y3 y4))
  | 0 => ⟨fun _ _ _ _ r h => by simp [vitrineref01_Reader_Bits.j0] at h, fun _ _ _ _ _ r h => by simp [vitrineref01_Reader_Bits.l0] at h⟩
  | k + 1 => by
    obtain ⟨ih0, ih1⟩ := vitrineref01_Reader_Bits.mono_l k
    refine ⟨?_, ?_⟩
    · intro y0 y1 y2 y3
      unfold vitrineref01_Reader_Bits.j0
      repeat' first
      | (with_reducible exact ih0 _ _ _ _)
      | (with_reducible exact ih1 _ _ _ _ _)
      | (with_reducible exact LeO.refl _)
      | (with_reducible exact LeO.none _)
      | (with_reducible refine LeO.ite ?_ ?_)
      | (with_reducible refine LeO.bind ?_ (fun _ => ?_))
      | exact ih0 _ _ _ _
      | exact ih1 _ _ _ _ _
      | exact LeO.none _
      | refine LeO.ite ?_ ?_
      | refine LeO.bind ?_ (fun _ => ?_)
    · intro y0 y1 y2 y3 y4
      unfold vitrineref01_Reader_Bits.l0
      repeat' first
      | (with_reducible exact ih0 _ _ _ _)
      | (with_reducible exact ih1 _ _ _ _ _)
      | (with_reducible exact LeO.refl _)
      | (with_reducible exact LeO.none _)
      | (with_reducible refine LeO.ite ?_ ?_)
      | (with_reducible refine LeO.bind ?_ (fun _ => ?_))
      | exact ih0 _ _ _ _
      | exact ih1 _ _ _ _ _
      | exact LeO.none _
      | refine LeO.ite ?_ ?_
      | refine LeO.bind ?_ (fun _ => ?_)
theorem vitrineref01_Reader_Bits.mono : ∀ a0 a1 a2 k, LeO (vitrineref01_Reader_Bits.f k a0 a1 a2) (vitrineref01_Reader_Bits.f (k + 1) a0 a1 a2) := by
  intro a0 a1 a2 k
  obtain ⟨ih0, ih1⟩ := vitrineref01_Reader_Bits.mono_l k
  unfold vitrineref01_Reader_Bits.f
  repeat' first
      | (with_reducible exact ih0 _ _ _ _)
      | (with_reducible exact ih1 _ _ _ _ _)
      | (with_reducible exact LeO.refl _)
      | (with_reducible exact LeO.none _)
      | (with_reducible refine LeO.ite ?_ ?_)
      | (with_reducible refine LeO.bind ?_ (fun _ => ?_))
      | exact ih0 _ _ _ _
      | exact ih1 _ _ _ _ _
      | exact LeO.none _
      | refine LeO.ite ?_ ?_
      | refine LeO.bind ?_ (fun _ => ?_)
set_option maxHeartbeats 8000000 in
set_option maxRecDepth 100000 in
theorem vitrineref01_Reader_Bits.calls (k : Nat) (g : Nat) (s0_0 : ByteArray) (s0_1 : Int) (a1 : Int) (r1 : Int) (r2 : Int) (r3 : ByteArray) (r4 : Int) (w0 w : World) (hI : IsS30 w0 w g s0_0 s0_1) (hB : Below w0.heap.size w0 w) (h : vitrineref01_Reader_Bits.f k s0_0 s0_1 a1 = some (r1, r2, r3, r4)) :
    Calls Try.prog 22 #[.pointer (some ⟨g, 0, none⟩), .int .i64 a1] w fun e w' => e = .returned (.tuple #[.int .i64 r1, .int .i64 r2]) ∧ IsS30 w0 w' g r3 r4 ∧ Below w0.heap.size w0 w' ∧ KeepBut w w' g none := by
  have HI0 := Aside0.mk hI
  have HK := Aside0.mk (KeepBut.refl w g none)
  have HL := Aside0.mk hB.size
  clear hI
  have HW0 := Aside0.mk hB.size
  have HB := Aside0.mk hB
  clear hB
  have H : (if a1 < 0 then (vitrineref01_Reader_Bits.j0 k a1 true s0_0 s0_1) else (vitrineref01_Reader_Bits.j0 k a1 (decide (a1 > 24)) s0_0 s0_1)) = some (r1, r2, r3, r4) := h
  clear h
  have HC3 := Aside0.mk H
  clear H
  go_enter Try.func22, Try.ntmps22
  go_upto_region 1 with (fail)
  repeat (go_quiet (fail); go_upto_region 1 with (fail))
  go_cut [13] (fun v13 wc => ∃ (kq : Nat) (x13_2 : Bool), v13 = .bool x13_2 ∧ Aside0 (vitrineref01_Reader_Bits.j0 kq a1 x13_2 s0_0 s0_1 = some (r1, r2, r3, r4)) ∧ Aside0 (kq ≤ k) ∧ Aside0 (IsS30 w0 wc g s0_0 s0_1) ∧ Aside0 (KeepBut w wc g none) ∧ Aside0 (Below w0.heap.size w0 wc))
  case first =>
    have H := HC3.out
    clear HC3
    by_cases c4 : a1 < 0
    · rw [if_pos c4] at H
      have c4b0 : decide (a1 < 0) = true := decide_eq_true c4
      clear c4
      (first | rw [c4b0] | (simp only [i64_w, i32_w]; rw [c4b0]) | skip)
      have H' := Aside0.mk H
      clear H
      go_wp2
      repeat (go_quiet (fail); try go_wp2)
      go_meet
      case rel => exact ⟨_, (true), (by first | rfl | (simp; done) | (simp [*]; done)), H', ⟨by first | omega | exact Nat.le_refl _⟩, ⟨by repeat (first | (with_reducible first | exact HI0.out | apply IsS30.alloc | apply IsS30.drewN | apply IsS30.drew | apply IsS30.set_0 | apply IsS30.set_1) | exact HI0.out)⟩, ⟨by repeat (first | (with_reducible first | exact HK.out | apply KeepBut.set_ | apply keep_drewN | apply keep_drew | apply keep_alloc) | exact HK.out)⟩, ⟨by repeat (first | (with_reducible first | exact HB.out | apply below_alloc | apply pw_below_drewN | apply below_drew1 | refine below_set ?_ (IsS30.ge HI0.out)) | exact HB.out)⟩⟩
    · rw [if_neg c4] at H
      have c4b0 : decide (a1 < 0) = false := decide_eq_false c4
      clear c4
      (first | rw [c4b0] | (simp only [i64_w, i32_w]; rw [c4b0]) | skip)
      have H' := Aside0.mk H
      clear H
      go_wp2
      repeat (go_quiet (fail); try go_wp2)
      go_meet
      case rel => exact ⟨_, (decide (a1 > 24)), (by first | rfl | (simp; done) | (simp [*]; done)), H', ⟨by first | omega | exact Nat.le_refl _⟩, ⟨by repeat (first | (with_reducible first | exact HI0.out | apply IsS30.alloc | apply IsS30.drewN | apply IsS30.drew | apply IsS30.set_0 | apply IsS30.set_1) | exact HI0.out)⟩, ⟨by repeat (first | (with_reducible first | exact HK.out | apply KeepBut.set_ | apply keep_drewN | apply keep_drew | apply keep_alloc) | exact HK.out)⟩, ⟨by repeat (first | (with_reducible first | exact HB.out | apply below_alloc | apply pw_below_drewN | apply below_drew1 | refine below_set ?_ (IsS30.ge HI0.out)) | exact HB.out)⟩⟩
  case rest =>
    clear HC3
    try clear c2
    try clear p2
    try clear c4
    try clear c4b0
    obtain ⟨kq, x13_2, rfl, HA, HJ2, HI0, HK, HB⟩ := hcut
    cases kq with
    | zero => exact absurd HA.out (by simp [vitrineref01_Reader_Bits.j0])
    | succ kj2 =>
      have H := HA.out
      clear HA
      simp only [vitrineref01_Reader_Bits.j0] at H
      by_cases c5 : x13_2 = true
      · subst c5
        have H1 : (some (0, 1, s0_0, s0_1)) = some (r1, r2, r3, r4) := by rw [if_pos rfl] at H; exact H
        clear H
        have H := H1
        clear H1
        simp only [Option.some.injEq, Prod.mk.injEq] at H
        obtain ⟨rfl, rfl, rfl, rfl⟩ := H
        go_wp2
        repeat (go_quiet (fail); try go_wp2)
        go_ret2
        exact ⟨by first | rfl | (simp [errW_none, errW_some] <;> rfl) | (simp [*, errW_none, errW_some] <;> rfl), by repeat (first | (with_reducible first | exact HI0.out | apply IsS30.alloc | apply IsS30.drewN | apply IsS30.drew | apply IsS30.set_0 | apply IsS30.set_1) | exact HI0.out), by repeat (first | (with_reducible first | exact HB.out | apply below_alloc | apply pw_below_drewN | apply below_drew1 | refine below_set ?_ (IsS30.ge HI0.out)) | exact HB.out), by repeat (first | (with_reducible first | exact HK.out | apply KeepBut.set_ | apply keep_drewN | apply keep_drew | apply keep_alloc) | exact HK.out)⟩
      · replace c5 := Bool.eq_false_iff.mpr c5
        subst c5
        have H1 : ((vitrineref01_Reader_Left.f s0_0 s0_1).bind fun bt112 => (if a1 > bt112.1 then (some (0, 3, bt112.2.1, bt112.2.2)) else (vitrineref01_Reader_Bits.l0 kj2 a1 0 0 bt112.2.1 bt112.2.2))) = some (r1, r2, r3, r4) := by rw [if_neg (show ¬ (false = true) by decide)] at H; exact H
        clear H
        have H := H1
        clear H1
        replace H := Option.bind_eq_some_iff.mp H
        obtain ⟨⟨t112, t113, t114⟩, A60, H⟩ := H
        replace H : (if a1 > t112 then (some (0, 3, t113, t114)) else (vitrineref01_Reader_Bits.l0 kj2 a1 0 0 t113 t114)) = some (r1, r2, r3, r4) := H
        have A6 := Aside0.mk A60
        clear A60
        by_cases c7 : a1 > t112
        · rw [if_pos c7] at H
          have c7b0 : decide (t112 < a1) = true := decide_eq_true c7
          clear c7
          simp only [Option.some.injEq, Prod.mk.injEq] at H
          obtain ⟨rfl, rfl, rfl, rfl⟩ := H
          go_wp2_with (first | (go_at_call 24; (with_reducible refine (vitrineref01_Reader_Left.calls g s0_0 s0_1 t112 t113 t114 w0 _ ?side1 ?side2 A6.out).mono ?_); (case side1 => repeat (first | (with_reducible first | exact HI0.out | apply IsS30.alloc | apply IsS30.drewN | apply IsS30.drew | apply IsS30.set_0 | apply IsS30.set_1) | exact HI0.out)); (case side2 => repeat (first | (with_reducible first | exact HB.out | apply below_alloc | apply pw_below_drewN | apply below_drew1 | refine below_set ?_ (IsS30.ge HI0.out)) | exact HB.out)); rintro e w8 ⟨rfl, hi, hb, hk⟩; have n0_ := Aside0.mk (KeepBut.trans (by repeat (first | (with_reducible first | exact HK.out | apply KeepBut.set_ | apply keep_drewN | apply keep_drew | apply keep_alloc) | exact HK.out)) hk (.inl rfl)); have n1_ := Aside0.mk (hb); have n2_ := Aside0.mk (hi); clear HK; clear HB; clear HI0; have HK := n0_; have HB := n1_; have HI0 := n2_; clear n0_ n1_ n2_; (try clear hb); (try clear hb2); (try clear hk); (try clear hi)))
          repeat (go_quiet (first | (go_at_call 24; (with_reducible refine (vitrineref01_Reader_Left.calls g s0_0 s0_1 t112 t113 t114 w0 _ ?side1 ?side2 A6.out).mono ?_); (case side1 => repeat (first | (with_reducible first | exact HI0.out | apply IsS30.alloc | apply IsS30.drewN | apply IsS30.drew | apply IsS30.set_0 | apply IsS30.set_1) | exact HI0.out)); (case side2 => repeat (first | (with_reducible first | exact HB.out | apply below_alloc | apply pw_below_drewN | apply below_drew1 | refine below_set ?_ (IsS30.ge HI0.out)) | exact HB.out)); rintro e w8 ⟨rfl, hi, hb, hk⟩; have n0_ := Aside0.mk (KeepBut.trans (by repeat (first | (with_reducible first | exact HK.out | apply KeepBut.set_ | apply keep_drewN | apply keep_drew | apply keep_alloc) | exact HK.out)) hk (.inl rfl)); have n1_ := Aside0.mk (hb); have n2_ := Aside0.mk (hi); clear HK; clear HB; clear HI0; have HK := n0_; have HB := n1_; have HI0 := n2_; clear n0_ n1_ n2_; (try clear hb); (try clear hb2); (try clear hk); (try clear hi))); try go_wp2_with (first | (go_at_call 24; (with_reducible refine (vitrineref01_Reader_Left.calls g s0_0 s0_1 t112 t113 t114 w0 _ ?side1 ?side2 A6.out).mono ?_); (case side1 => repeat (first | (with_reducible first | exact HI0.out | apply IsS30.alloc | apply IsS30.drewN | apply IsS30.drew | apply IsS30.set_0 | apply IsS30.set_1) | exact HI0.out)); (case side2 => repeat (first | (with_reducible first | exact HB.out | apply below_alloc | apply pw_below_drewN | apply below_drew1 | refine below_set ?_ (IsS30.ge HI0.out)) | exact HB.out)); rintro e w8 ⟨rfl, hi, hb, hk⟩; have n0_ := Aside0.mk (KeepBut.trans (by repeat (first | (with_reducible first | exact HK.out | apply KeepBut.set_ | apply keep_drewN | apply keep_drew | apply keep_alloc) | exact HK.out)) hk (.inl rfl)); have n1_ := Aside0.mk (hb); have n2_ := Aside0.mk (hi); clear HK; clear HB; clear HI0; have HK := n0_; have HB := n1_; have HI0 := n2_; clear n0_ n1_ n2_; (try clear hb); (try clear hb2); (try clear hk); (try clear hi))))
          go_ret2
          exact ⟨by first | rfl | (simp [errW_none, errW_some] <;> rfl) | (simp [*, errW_none, errW_some] <;> rfl), by repeat (first | (with_reducible first | exact HI0.out | apply IsS30.alloc | apply IsS30.drewN | apply IsS30.drew | apply IsS30.set_0 | apply IsS30.set_1) | exact HI0.out), by repeat (first | (with_reducible first | exact HB.out | apply below_alloc | apply pw_below_drewN | apply below_drew1 | refine below_set ?_ (IsS30.ge HI0.out)) | exact HB.out), by repeat (first | (with_reducible first | exact HK.out | apply KeepBut.set_ | apply keep_drewN | apply keep_drew | apply keep_alloc) | exact HK.out)⟩
        · rw [if_neg c7] at H
          have c7b0 : decide (t112 < a1) = false := decide_eq_false c7
          clear c7
          have H' := Aside0.mk H
          clear H
          go_wp2_with (first | (go_at_call 24; (with_reducible refine (vitrineref01_Reader_Left.calls g s0_0 s0_1 t112 t113 t114 w0 _ ?side1 ?side2 A6.out).mono ?_); (case side1 => repeat (first | (with_reducible first | exact HI0.out | apply IsS30.alloc | apply IsS30.drewN | apply IsS30.drew | apply IsS30.set_0 | apply IsS30.set_1) | exact HI0.out)); (case side2 => repeat (first | (with_reducible first | exact HB.out | apply below_alloc | apply pw_below_drewN | apply below_drew1 | refine below_set ?_ (IsS30.ge HI0.out)) | exact HB.out)); rintro e w9 ⟨rfl, hi, hb, hk⟩; have n0_ := Aside0.mk (KeepBut.trans (by repeat (first | (with_reducible first | exact HK.out | apply KeepBut.set_ | apply keep_drewN | apply keep_drew | apply keep_alloc) | exact HK.out)) hk (.inl rfl)); have n1_ := Aside0.mk (hb); have n2_ := Aside0.mk (hi); clear HK; clear HB; clear HI0; have HK := n0_; have HB := n1_; have HI0 := n2_; clear n0_ n1_ n2_; (try clear hb); (try clear hb2); (try clear hk); (try clear hi)))
          repeat (go_quiet (first | (go_at_call 24; (with_reducible refine (vitrineref01_Reader_Left.calls g s0_0 s0_1 t112 t113 t114 w0 _ ?side1 ?side2 A6.out).mono ?_); (case side1 => repeat (first | (with_reducible first | exact HI0.out | apply IsS30.alloc | apply IsS30.drewN | apply IsS30.drew | apply IsS30.set_0 | apply IsS30.set_1) | exact HI0.out)); (case side2 => repeat (first | (with_reducible first | exact HB.out | apply below_alloc | apply pw_below_drewN | apply below_drew1 | refine below_set ?_ (IsS30.ge HI0.out)) | exact HB.out)); rintro e w9 ⟨rfl, hi, hb, hk⟩; have n0_ := Aside0.mk (KeepBut.trans (by repeat (first | (with_reducible first | exact HK.out | apply KeepBut.set_ | apply keep_drewN | apply keep_drew | apply keep_alloc) | exact HK.out)) hk (.inl rfl)); have n1_ := Aside0.mk (hb); have n2_ := Aside0.mk (hi); clear HK; clear HB; clear HI0; have HK := n0_; have HB := n1_; have HI0 := n2_; clear n0_ n1_ n2_; (try clear hb); (try clear hb2); (try clear hk); (try clear hi))); try go_wp2_with (first | (go_at_call 24; (with_reducible refine (vitrineref01_Reader_Left.calls g s0_0 s0_1 t112 t113 t114 w0 _ ?side1 ?side2 A6.out).mono ?_); (case side1 => repeat (first | (with_reducible first | exact HI0.out | apply IsS30.alloc | apply IsS30.drewN | apply IsS30.drew | apply IsS30.set_0 | apply IsS30.set_1) | exact HI0.out)); (case side2 => repeat (first | (with_reducible first | exact HB.out | apply below_alloc | apply pw_below_drewN | apply below_drew1 | refine below_set ?_ (IsS30.ge HI0.out)) | exact HB.out)); rintro e w9 ⟨rfl, hi, hb, hk⟩; have n0_ := Aside0.mk (KeepBut.trans (by repeat (first | (with_reducible first | exact HK.out | apply KeepBut.set_ | apply keep_drewN | apply keep_drew | apply keep_alloc) | exact HK.out)) hk (.inl rfl)); have n1_ := Aside0.mk (hb); have n2_ := Aside0.mk (hi); clear HK; clear HB; clear HI0; have HK := n0_; have HB := n1_; have HI0 := n2_; clear n0_ n1_ n2_; (try clear hb); (try clear hb2); (try clear hk); (try clear hi))))
          go_loopg [6, 7] kj2 (fun kq v6 v7 w' => ∃ (x6_2 : Int) (x7_2 : Int), v6 = .int .i64 x6_2 ∧ v7 = .int .i64 x7_2 ∧ Aside0 (vitrineref01_Reader_Bits.l0 kq a1 x6_2 x7_2 t113 t114 = some (r1, r2, r3, r4)) ∧ Aside0 (kq ≤ kj2) ∧ Aside0 (IsS30 w0 w' g t113 t114) ∧ Aside0 (KeepBut w w' g none) ∧ Aside0 (Below w0.heap.size w0 w'))
          case atStart => exact ⟨(0), (0), (by first | rfl | (simp; done) | (simp [*]; done)), (by first | rfl | (simp; done) | (simp [*]; done)), H', ⟨Nat.le_refl _⟩, ⟨by repeat (first | (with_reducible first | exact HI0.out | apply IsS30.alloc | apply IsS30.drewN | apply IsS30.drew | apply IsS30.set_0 | apply IsS30.set_1) | exact HI0.out)⟩, ⟨by repeat (first | (with_reducible first | exact HK.out | apply KeepBut.set_ | apply keep_drewN | apply keep_drew | apply keep_alloc) | exact HK.out)⟩, ⟨by repeat (first | (with_reducible first | exact HB.out | apply below_alloc | apply pw_below_drewN | apply below_drew1 | refine below_set ?_ (IsS30.ge HI0.out)) | exact HB.out)⟩⟩
          case round =>
            clear H'
            try clear c2
            try clear p2
            try clear c4
            try clear c4b0
            try clear c5
            try clear c7
            try clear c7b0
            try clear p2
            obtain ⟨x6_2, x7_2, rfl, rfl, HA, HK2, HI0, HK, HB⟩ := hrel
            cases gk with
            | zero => exact absurd HA.out (by simp [vitrineref01_Reader_Bits.l0])
            | succ k2 =>
              have H := HA.out
              clear HA
              simp only [vitrineref01_Reader_Bits.l0] at H
              by_cases c10 : x7_2 < a1
              · rw [if_pos c10] at H
                have c10b0 : decide (x7_2 < a1) = true := decide_eq_true c10
                clear c10
                obtain ⟨ji11, hji11⟩ : ∃ j_ : Int, (wrap64 (Int.tdiv (wrap64 (t114 + x7_2)) 8)) = j_ := ⟨_, rfl⟩
                replace H : (if 0 ≤ (ji11) then (if (ji11) < (t113.size : Int) then (if 0 ≤ (Int.tmod (wrap64 (t114 + x7_2)) 8) then (if 0 ≤ x7_2 then (vitrineref01_Reader_Bits.l0 k2 a1 (Go.bits .or .i64 x6_2 (shl .i64 (wrap64 (Go.bits .and .u8 (shr .u8 (bt t113 (ji11)) (Int.tmod (wrap64 (t114 + x7_2)) 8)) 1)) x7_2)) (wrap64 (x7_2 + 1)) t113 t114) else (none)) else (none)) else (none)) else (none)) = some (r1, r2, r3, r4) := by first | (rw [hji11] at H; exact H) | (simp only [hji11] at H ⊢; exact H)
                have hji11w : (IntKind.i64.wrap (Int.tdiv (wrap64 (t114 + x7_2)) 8)) = ji11 := (i64_w _).trans hji11
                by_cases c12 : 0 ≤ (ji11)
                · rw [if_pos c12] at H
                  have c12b0 : decide (0 ≤ (ji11)) = true := decide_eq_true c12
                  clear c12
                  by_cases c13 : (ji11) < (t113.size : Int)
                  · rw [if_pos c13] at H
                    have c13b0 : decide ((ji11) < (t113.size : Int)) = true := decide_eq_true c13
                    clear c13
                    obtain ⟨ji15, hji15⟩ : ∃ j_ : Int, (Int.tmod (wrap64 (t114 + x7_2)) 8) = j_ := ⟨_, rfl⟩
                    replace H : (if 0 ≤ (ji15) then (if 0 ≤ x7_2 then (vitrineref01_Reader_Bits.l0 k2 a1 (Go.bits .or .i64 x6_2 (shl .i64 (wrap64 (Go.bits .and .u8 (shr .u8 (bt t113 (ji11)) (ji15)) 1)) x7_2)) (wrap64 (x7_2 + 1)) t113 t114) else (none)) else (none)) = some (r1, r2, r3, r4) := by first | (rw [hji15] at H; exact H) | (simp only [hji15] at H ⊢; exact H)
                    by_cases c16 : 0 ≤ (ji15)
                    · rw [if_pos c16] at H
                      have c16b0 := eq_true c16
                      have c16b1 : decide (0 ≤ (ji15)) = true := decide_eq_true c16
                      clear c16
                      obtain ⟨ji17, hji17⟩ : ∃ j_ : Int, (shr .u8 (bt t113 (ji11)) (ji15)) = j_ := ⟨_, rfl⟩
                      replace H : (if 0 ≤ x7_2 then (vitrineref01_Reader_Bits.l0 k2 a1 (Go.bits .or .i64 x6_2 (shl .i64 (wrap64 (Go.bits .and .u8 (ji17) 1)) x7_2)) (wrap64 (x7_2 + 1)) t113 t114) else (none)) = some (r1, r2, r3, r4) := by first | (rw [hji17] at H; exact H) | (simp only [hji17] at H ⊢; exact H)
                      have hji17_ : ((bt t113 (ji11)) / 2 ^ min (ji15).toNat 8) = ji17 := hji17
                      have hji17z : (ji15) ≤ 8 → ((bt t113 (ji11)) / 2 ^ (ji15).toNat) = ji17 := shr_small hji17
                      by_cases c18 : 0 ≤ x7_2
                      · rw [if_pos c18] at H
                        have c18b0 := eq_true c18
                        have c18b1 : decide (0 ≤ x7_2) = true := decide_eq_true c18
                        clear c18
                        obtain ⟨ji19, hji19⟩ : ∃ j_ : Int, (shl .i64 (wrap64 (Go.bits .and .u8 (ji17) 1)) x7_2) = j_ := ⟨_, rfl⟩
                        replace H : (vitrineref01_Reader_Bits.l0 k2 a1 (Go.bits .or .i64 x6_2 (ji19)) (wrap64 (x7_2 + 1)) t113 t114) = some (r1, r2, r3, r4) := by first | (rw [hji19] at H; exact H) | (simp only [hji19] at H ⊢; exact H)
                        have hji19_ : (IntKind.i64.wrap ((wrap64 (Go.bits .and .u8 (ji17) 1)) * 2 ^ min x7_2.toNat 64)) = ji19 := hji19
                        have hji19z : x7_2 ≤ 64 → (IntKind.i64.wrap ((wrap64 (Go.bits .and .u8 (ji17) 1)) * 2 ^ x7_2.toNat)) = ji19 := shl_small hji19
                        have hji19y : (wrap64 ((wrap64 (Go.bits .and .u8 (ji17) 1)) * 2 ^ min x7_2.toNat 64)) = ji19 := (i64_w _).symm.trans hji19_
                        have hji19x : x7_2 ≤ 64 → (wrap64 ((wrap64 (Go.bits .and .u8 (ji17) 1)) * 2 ^ x7_2.toNat)) = ji19 := fun h_ => (i64_w _).symm.trans (hji19z h_)
                        have H' := Aside0.mk H
                        clear H
                        obtain ⟨HGz20, hgz20⟩ := HI0.out
                        have hcz20_0 := cellS30_0 HGz20
                        have hcz20_1 := cellS30_1 HGz20
                        have hfz20_0 := blk_frozen HGz20 0
                        have hfz20_1 := blk_frozen HGz20 1
                        clear HGz20 hgz20
                        have p14 : 0 ≤ ((ji11) : Int) := of_decide_eq_true (by first | (with_reducible assumption) | assumption)
                        have q14 : (ji11) < (t113.size : Int) := of_decide_eq_true (by first | (with_reducible assumption) | assumption)
                        have hx14 := bt_at t113 (ji11)
                        replace p14 := eq_true p14
                        replace q14 := eq_true q14
                        go_wp2
                        repeat (go_quiet (fail); try go_wp2)
                        go_roundg k2
                        case measure => have := HJ2.out; have := HK2.out; omega
                        case rel => exact ⟨(Go.bits .or .i64 x6_2 (ji19)), (wrap64 (x7_2 + 1)), (by first | rfl | (simp; done) | (simp only [← hji19] <;> (first | rfl | simp)) | (simp [*]; done)), (by first | rfl | (simp; done) | (simp [*]; done)), H', ⟨by have := HJ2.out; have := HK2.out; omega⟩, ⟨by repeat (first | (with_reducible first | exact HI0.out | apply IsS30.alloc | apply IsS30.drewN | apply IsS30.drew | apply IsS30.set_0 | apply IsS30.set_1) | exact HI0.out)⟩, ⟨by repeat (first | (with_reducible first | exact HK.out | apply KeepBut.set_ | apply keep_drewN | apply keep_drew | apply keep_alloc) | exact HK.out)⟩, ⟨by repeat (first | (with_reducible first | exact HB.out | apply below_alloc | apply pw_below_drewN | apply below_drew1 | refine below_set ?_ (IsS30.ge HI0.out)) | exact HB.out)⟩⟩
                      · rw [if_neg c18] at H
                        exact absurd H (by simp)
                    · rw [if_neg c16] at H
                      exact absurd H (by simp)
                  · rw [if_neg c13] at H
                    exact absurd H (by simp)
                · rw [if_neg c12] at H
                  exact absurd H (by simp)
              · rw [if_neg c10] at H
                have c10b0 : decide (x7_2 < a1) = false := decide_eq_false c10
                clear c10
                simp only [Option.some.injEq, Prod.mk.injEq] at H
                obtain ⟨rfl, rfl, rfl, rfl⟩ := H
                obtain ⟨HGz21, hgz21⟩ := HI0.out
                have hcz21_0 := cellS30_0 HGz21
                have hcz21_1 := cellS30_1 HGz21
                have hfz21_0 := blk_frozen HGz21 0
                have hfz21_1 := blk_frozen HGz21 1
                clear HGz21 hgz21
                go_wp2
                repeat (go_quiet (fail); try go_wp2)
                go_ret2
                exact ⟨by first | rfl | (simp [errW_none, errW_some] <;> rfl) | (simp [*, errW_none, errW_some] <;> rfl), by repeat (first | (with_reducible first | exact HI0.out | apply IsS30.alloc | apply IsS30.drewN | apply IsS30.drew | apply IsS30.set_0 | apply IsS30.set_1) | exact HI0.out), by repeat (first | (with_reducible first | exact HB.out | apply below_alloc | apply pw_below_drewN | apply below_drew1 | refine below_set ?_ (IsS30.ge HI0.out)) | exact HB.out), by repeat (first | (with_reducible first | exact HK.out | apply KeepBut.set_ | apply keep_drewN | apply keep_drew | apply keep_alloc) | exact HK.out)⟩

end Go.Proofs.Ytpldapjcojjicaa.Pb
