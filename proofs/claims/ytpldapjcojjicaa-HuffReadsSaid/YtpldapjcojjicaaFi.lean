/- Layer 2 (huff): the first code of each length: its contract. -/
import Derived.Test.YtpldapjcojjicaaCk
import Derived.BigRegion
import Derived.RegionTactic
namespace Go.Proofs.Ytpldapjcojjicaa.B
open Go.RowKit Go.Proofs.YtpldapjcojjicaaW.PrintWords Go.Proofs.YtpldapjcojjicaaW.PrintLast Go.Proofs.YtpldapjcojjicaaW.PrintMore
set_option linter.unusedVariables false
set_option linter.unusedSimpArgs false

def fstep (n o : List Int) (l : Nat) : List Int := o.set l ((o.getD (l - 1) 0 + n.getD (l - 1) 0) * 2)
/-- The first codes of the lengths below l; behind them nothing. -/
def firstK (n : List Int) : Nat → List Int
  | 0 => List.replicate 16 0
  | k + 1 => fstep n (firstK n k) (k + 2)
/-- The first code of each length. -/
def firstF (n : List Int) : List Int := firstK n 14
theorem firstK_len (n : List Int) : ∀ k, (firstK n k).length = 16
  | 0 => by simp [firstK]
  | k + 1 => by unfold firstK fstep; rw [List.length_set, firstK_len n k]
theorem set_getD (o : List Int) (l j : Nat) (x : Int) : (o.set l x).getD j 0 = if l = j ∧ l < o.length then x else o.getD j 0 := by
  rw [List.getD_eq_getElem?_getD, List.getElem?_set, List.getD_eq_getElem?_getD]
  by_cases h : l = j
  · subst h
    by_cases h2 : l < o.length
    · simp [h2]
    · simp [h2]
  · simp [h]
theorem firstK_bd (n : List Int) (hn : ∀ j, 0 ≤ n.getD j 0 ∧ n.getD j 0 ≤ 288) : ∀ k j, 0 ≤ (firstK n k).getD j 0 ∧ (firstK n k).getD j 0 + 600 ≤ 600 * ((2 ^ j : Nat) : Int)
  | 0, j => by
    have hp := Nat.two_pow_pos j
    have : (firstK n 0).getD j 0 = 0 := by unfold firstK; rw [List.getD_eq_getElem?_getD, List.getElem?_replicate]; split <;> simp
    omega
  | k + 1, j => by
    have ih := firstK_bd n hn k
    unfold firstK fstep
    rw [set_getD]
    split
    · rename_i h
      obtain ⟨rfl, _⟩ := h
      have h1 := ih (k + 2 - 1)
      have h2 := hn (k + 2 - 1)
      rw [show k + 2 - 1 = k + 1 by omega] at *
      have e : ((2 ^ (k + 2) : Nat) : Int) = ((2 ^ (k + 1) : Nat) : Int) * 2 := by rw [Nat.pow_succ 2 (k + 1)]; push_cast; rfl
      rw [e]
      omega
    · exact ih j
set_option maxHeartbeats 2000000 in
set_option maxRecDepth 100000 in
theorem first_calls (W : World) (n : List Int) (hl : n.length = 16) (hn : ∀ j, 0 ≤ n.getD j 0 ∧ n.getD j 0 ≤ 288) :
    Calls Try.prog 52 #[aggN n] W fun e W' => e = .returned (aggN (firstF n)) ∧ Fr (fun _ => False) W W' := by
  have hbd := Aside0.mk (firstK_bd n hn)
  obtain ⟨b0, b1, b2, b3, b4, b5, b6, b7, b8, b9, b10, b11, b12, b13, b14, b15, hn16⟩ := IsN.shape hl
  have hag : aggN n = .agg #[.int .i64 b0, .int .i64 b1, .int .i64 b2, .int .i64 b3, .int .i64 b4, .int .i64 b5, .int .i64 b6, .int .i64 b7, .int .i64 b8, .int .i64 b9, .int .i64 b10, .int .i64 b11, .int .i64 b12, .int .i64 b13, .int .i64 b14, .int .i64 b15] := by rw [hn16]; rfl
  have hcl : (nums .i64 n).toArray = #[.int .i64 b0, .int .i64 b1, .int .i64 b2, .int .i64 b3, .int .i64 b4, .int .i64 b5, .int .i64 b6, .int .i64 b7, .int .i64 b8, .int .i64 b9, .int .i64 b10, .int .i64 b11, .int .i64 b12, .int .i64 b13, .int .i64 b14, .int .i64 b15] := by rw [hn16]; rfl
  rw [hag]
  have hn16 := Aside0.mk hn16
  have hI0 : Aside0 (IsN (((W.alloc (.cells (nums .i64 n).toArray 80)).alloc (.cells (nums .i64 (List.replicate 16 0)).toArray 80)).alloc (.cells (nums .i64 (List.replicate 16 0)).toArray 80)) (W.heap.size) n) := ⟨⟨(heap_alloc_old _ _ (by simp; omega)).trans ((heap_alloc_old _ _ (by simp)).trans (heap_alloc_new W _)), hl⟩⟩
  have hI1 : Aside0 (IsN (((W.alloc (.cells (nums .i64 n).toArray 80)).alloc (.cells (nums .i64 (List.replicate 16 0)).toArray 80)).alloc (.cells (nums .i64 (List.replicate 16 0)).toArray 80)) (W.heap.size + 1) (List.replicate 16 0)) := by
    have h := heap_alloc_new (W.alloc (.cells (nums .i64 n).toArray 80)) (.cells (nums .i64 (List.replicate 16 0)).toArray 80)
    rw [show (W.alloc (.cells (nums .i64 n).toArray 80)).heap.size = W.heap.size + 1 by simp] at h
    exact ⟨⟨(heap_alloc_old _ _ (by simp)).trans h, by simp⟩⟩
  have hI2 : Aside0 (IsN (((W.alloc (.cells (nums .i64 n).toArray 80)).alloc (.cells (nums .i64 (List.replicate 16 0)).toArray 80)).alloc (.cells (nums .i64 (List.replicate 16 0)).toArray 80)) (W.heap.size + 1 + 1) (List.replicate 16 0)) := ⟨⟨by
    have h := heap_alloc_new ((W.alloc (.cells (nums .i64 n).toArray 80)).alloc (.cells (nums .i64 (List.replicate 16 0)).toArray 80)) (.cells (nums .i64 (List.replicate 16 0)).toArray 80)
    rwa [show ((W.alloc (.cells (nums .i64 n).toArray 80)).alloc (.cells (nums .i64 (List.replicate 16 0)).toArray 80)).heap.size = W.heap.size + 1 + 1 by simp] at h, by simp⟩⟩
  have hF0 : Aside0 (Fr (fun _ => False) W (((W.alloc (.cells (nums .i64 n).toArray 80)).alloc (.cells (nums .i64 (List.replicate 16 0)).toArray 80)).alloc (.cells (nums .i64 (List.replicate 16 0)).toArray 80))) := ⟨(((Fr.refl _ W).alloc _).alloc _).alloc _⟩
  rw [hcl] at hI0 hI1 hI2 hF0
  replace hn := Aside0.mk hn
  clear hag hcl
  go_enter Try.func52, Try.ntmps52
  go_wp2
  go_loopg [4] 16 (fun gh v4 wr => ∃ (k : Nat), v4 = .int .i64 ((k : Int) + 2) ∧ k ≤ 14 ∧ 14 - k ≤ gh ∧ Aside0 (IsN wr W.heap.size n ∧ IsN wr (W.heap.size + 1) (List.replicate 16 0) ∧ IsN wr (W.heap.size + 1 + 1) (firstK n k) ∧ Fr (fun _ => False) W wr))
  case atStart => exact ⟨0, rfl, by omega, by omega, ⟨hI0.out, hI1.out, hI2.out, hF0.out⟩⟩
  case round =>
    clear hI0 hI1 hI2 hF0
    obtain ⟨k, rfl, hk, hg, HR⟩ := hrel
    by_cases hc : k < 14
    · have hcb : decide ((k : Int) + 2 ≤ 15) = true := decide_eq_true (by omega)
      obtain ⟨x, hx⟩ : ∃ x, (firstK n k).getD (k + 1) 0 = x := ⟨_, rfl⟩
      obtain ⟨y, hy⟩ : ∃ y, n.getD (k + 1) 0 = y := ⟨_, rfl⟩
      have hxb := hbd.out k (k + 1)
      rw [hx] at hxb
      have hp : (2 : Nat) ^ (k + 1) ≤ 2 ^ 15 := two_pow_le (by omega)
      have hyb := hn.out (k + 1)
      rw [hy] at hyb
      have xb0 : 0 ≤ x := hxb.1
      have xb1 : x ≤ 100000000 := by omega
      have yb0 : 0 ≤ y := hyb.1
      have yb1 : y ≤ 288 := hyb.2
      have c0 : wr.cell? ⟨W.heap.size + 1 + 1, k + 1, none⟩ = some (.int .i64 x) := by rw [← hx]; exact HR.out.2.2.1.cell (k + 1) (by omega)
      have c1 : wr.cell? ⟨W.heap.size, k + 1, none⟩ = some (.int .i64 y) := by rw [← hy]; exact HR.out.1.cell (k + 1) (by omega)
      obtain ⟨z, hz⟩ : ∃ z, (firstK n k).getD (k + 2) 0 = z := ⟨_, rfl⟩
      have c2 : wr.cell? ⟨W.heap.size + 1 + 1, k + 2, none⟩ = some (.int .i64 z) := by rw [← hz]; exact HR.out.2.2.1.cell (k + 2) (by omega)
      have f2 := blk_frozen HR.out.2.2.1.1 (k + 2)
      have e1 : ((k : Int) + 1).toNat = k + 1 := by omega
      have e2 : ((k : Int) + 2).toNat = k + 2 := by omega
      have p1 := eq_true (show (0 : Int) ≤ (k : Int) + 1 by omega)
      have p2 := eq_true (show (0 : Int) ≤ (k : Int) + 2 by omega)
      have q1 := eq_true (show (k : Int) + 1 < 16 by omega)
      have q2 := eq_true (show (k : Int) + 2 < 16 by omega)
      have p3 := eq_true (show (1 : Int) ≤ (k : Int) + 2 by omega)
      have q3 := eq_true (show (k : Int) + 2 - 1 < 16 by omega)
      have hfs : Aside0 (firstK n (k + 1) = (firstK n k).set (k + 2) ((x + y) * 2)) := ⟨by rw [← hx, ← hy]; rfl⟩
      clear hx hy hz hxb hyb hp
      go_wp2
      go_region
      all_goals go_wp2
      go_roundg (14 - (k + 1))
      case measure => omega
      case rel =>
        refine ⟨k + 1, by first | rfl | go_num | (congr 1; omega), by omega, Nat.le_refl _, ⟨?_⟩⟩
        obtain ⟨h1, h2, h3, h4⟩ := HR.out
        refine ⟨⟨(Below.heap_setCell wr ⟨W.heap.size + 1 + 1, k + 2, none⟩ (.int .i64 ((x + y) * 2)) W.heap.size (by show W.heap.size ≠ W.heap.size + 1 + 1; omega)).trans h1.1, h1.2⟩, ⟨(Below.heap_setCell wr ⟨W.heap.size + 1 + 1, k + 2, none⟩ (.int .i64 ((x + y) * 2)) (W.heap.size + 1) (by show W.heap.size + 1 ≠ W.heap.size + 1 + 1; omega)).trans h2.1, h2.2⟩, ?_, ?_⟩
        · rw [hfs.out]; exact h3.set (k + 2) ((x + y) * 2)
        · exact (h4.set_ ⟨W.heap.size + 1 + 1, k + 2, none⟩ (.int .i64 ((x + y) * 2)) (fun hlt => by have : W.heap.size + 1 + 1 < W.heap.size := hlt; omega)).drew
    · have hcb : decide ((k : Int) + 2 ≤ 15) = false := decide_eq_false (by omega)
      obtain rfl : k = 14 := by omega
      have hlen := firstK_len n 14
      have hff := show firstK n 14 = firstF n from rfl
      obtain ⟨HN0, HM, HN, HF⟩ := HR.out
      generalize firstK n 14 = o at *
      obtain ⟨a0, a1, a2, a3, a4, a5, a6, a7, a8, a9, a10, a11, a12, a13, a14, a15, ho⟩ := IsN.shape hlen
      rw [ho] at HN hff
      have d0 : wr.cell? ⟨W.heap.size + 1 + 1, 0, none⟩ = some (.int .i64 a0) := HN.cell 0 (by decide)
      have d1 : wr.cell? ⟨W.heap.size + 1 + 1, 1, none⟩ = some (.int .i64 a1) := HN.cell 1 (by decide)
      have d2 : wr.cell? ⟨W.heap.size + 1 + 1, 2, none⟩ = some (.int .i64 a2) := HN.cell 2 (by decide)
      have d3 : wr.cell? ⟨W.heap.size + 1 + 1, 3, none⟩ = some (.int .i64 a3) := HN.cell 3 (by decide)
      have d4 : wr.cell? ⟨W.heap.size + 1 + 1, 4, none⟩ = some (.int .i64 a4) := HN.cell 4 (by decide)
      have d5 : wr.cell? ⟨W.heap.size + 1 + 1, 5, none⟩ = some (.int .i64 a5) := HN.cell 5 (by decide)
      have d6 : wr.cell? ⟨W.heap.size + 1 + 1, 6, none⟩ = some (.int .i64 a6) := HN.cell 6 (by decide)
      have d7 : wr.cell? ⟨W.heap.size + 1 + 1, 7, none⟩ = some (.int .i64 a7) := HN.cell 7 (by decide)
      have d8 : wr.cell? ⟨W.heap.size + 1 + 1, 8, none⟩ = some (.int .i64 a8) := HN.cell 8 (by decide)
      have d9 : wr.cell? ⟨W.heap.size + 1 + 1, 9, none⟩ = some (.int .i64 a9) := HN.cell 9 (by decide)
      have d10 : wr.cell? ⟨W.heap.size + 1 + 1, 10, none⟩ = some (.int .i64 a10) := HN.cell 10 (by decide)
      have d11 : wr.cell? ⟨W.heap.size + 1 + 1, 11, none⟩ = some (.int .i64 a11) := HN.cell 11 (by decide)
      have d12 : wr.cell? ⟨W.heap.size + 1 + 1, 12, none⟩ = some (.int .i64 a12) := HN.cell 12 (by decide)
      have d13 : wr.cell? ⟨W.heap.size + 1 + 1, 13, none⟩ = some (.int .i64 a13) := HN.cell 13 (by decide)
      have d14 : wr.cell? ⟨W.heap.size + 1 + 1, 14, none⟩ = some (.int .i64 a14) := HN.cell 14 (by decide)
      have d15 : wr.cell? ⟨W.heap.size + 1 + 1, 15, none⟩ = some (.int .i64 a15) := HN.cell 15 (by decide)
      have m0 : wr.cell? ⟨W.heap.size + 1, 0, none⟩ = some (.int .i64 0) := HM.cell 0 (by decide)
      have m1 : wr.cell? ⟨W.heap.size + 1, 1, none⟩ = some (.int .i64 0) := HM.cell 1 (by decide)
      have m2 : wr.cell? ⟨W.heap.size + 1, 2, none⟩ = some (.int .i64 0) := HM.cell 2 (by decide)
      have m3 : wr.cell? ⟨W.heap.size + 1, 3, none⟩ = some (.int .i64 0) := HM.cell 3 (by decide)
      have m4 : wr.cell? ⟨W.heap.size + 1, 4, none⟩ = some (.int .i64 0) := HM.cell 4 (by decide)
      have m5 : wr.cell? ⟨W.heap.size + 1, 5, none⟩ = some (.int .i64 0) := HM.cell 5 (by decide)
      have m6 : wr.cell? ⟨W.heap.size + 1, 6, none⟩ = some (.int .i64 0) := HM.cell 6 (by decide)
      have m7 : wr.cell? ⟨W.heap.size + 1, 7, none⟩ = some (.int .i64 0) := HM.cell 7 (by decide)
      have m8 : wr.cell? ⟨W.heap.size + 1, 8, none⟩ = some (.int .i64 0) := HM.cell 8 (by decide)
      have m9 : wr.cell? ⟨W.heap.size + 1, 9, none⟩ = some (.int .i64 0) := HM.cell 9 (by decide)
      have m10 : wr.cell? ⟨W.heap.size + 1, 10, none⟩ = some (.int .i64 0) := HM.cell 10 (by decide)
      have m11 : wr.cell? ⟨W.heap.size + 1, 11, none⟩ = some (.int .i64 0) := HM.cell 11 (by decide)
      have m12 : wr.cell? ⟨W.heap.size + 1, 12, none⟩ = some (.int .i64 0) := HM.cell 12 (by decide)
      have m13 : wr.cell? ⟨W.heap.size + 1, 13, none⟩ = some (.int .i64 0) := HM.cell 13 (by decide)
      have m14 : wr.cell? ⟨W.heap.size + 1, 14, none⟩ = some (.int .i64 0) := HM.cell 14 (by decide)
      have m15 : wr.cell? ⟨W.heap.size + 1, 15, none⟩ = some (.int .i64 0) := HM.cell 15 (by decide)
      have g0 := blk_frozen HM.1 0
      have g1 := blk_frozen HM.1 1
      have g2 := blk_frozen HM.1 2
      have g3 := blk_frozen HM.1 3
      have g4 := blk_frozen HM.1 4
      have g5 := blk_frozen HM.1 5
      have g6 := blk_frozen HM.1 6
      have g7 := blk_frozen HM.1 7
      have g8 := blk_frozen HM.1 8
      have g9 := blk_frozen HM.1 9
      have g10 := blk_frozen HM.1 10
      have g11 := blk_frozen HM.1 11
      have g12 := blk_frozen HM.1 12
      have g13 := blk_frozen HM.1 13
      have g14 := blk_frozen HM.1 14
      have g15 := blk_frozen HM.1 15
      have hEnd : Aside0 (IsN ((((((((((((((((wr.setCell ⟨W.heap.size + 1, 0, none⟩ (.int .i64 a0)).setCell ⟨W.heap.size + 1, 1, none⟩ (.int .i64 a1)).setCell ⟨W.heap.size + 1, 2, none⟩ (.int .i64 a2)).setCell ⟨W.heap.size + 1, 3, none⟩ (.int .i64 a3)).setCell ⟨W.heap.size + 1, 4, none⟩ (.int .i64 a4)).setCell ⟨W.heap.size + 1, 5, none⟩ (.int .i64 a5)).setCell ⟨W.heap.size + 1, 6, none⟩ (.int .i64 a6)).setCell ⟨W.heap.size + 1, 7, none⟩ (.int .i64 a7)).setCell ⟨W.heap.size + 1, 8, none⟩ (.int .i64 a8)).setCell ⟨W.heap.size + 1, 9, none⟩ (.int .i64 a9)).setCell ⟨W.heap.size + 1, 10, none⟩ (.int .i64 a10)).setCell ⟨W.heap.size + 1, 11, none⟩ (.int .i64 a11)).setCell ⟨W.heap.size + 1, 12, none⟩ (.int .i64 a12)).setCell ⟨W.heap.size + 1, 13, none⟩ (.int .i64 a13)).setCell ⟨W.heap.size + 1, 14, none⟩ (.int .i64 a14)).setCell ⟨W.heap.size + 1, 15, none⟩ (.int .i64 a15)) (W.heap.size + 1) [a0, a1, a2, a3, a4, a5, a6, a7, a8, a9, a10, a11, a12, a13, a14, a15]) := ⟨(IsN.set (IsN.set (IsN.set (IsN.set (IsN.set (IsN.set (IsN.set (IsN.set (IsN.set (IsN.set (IsN.set (IsN.set (IsN.set (IsN.set (IsN.set (IsN.set HM 0 a0) 1 a1) 2 a2) 3 a3) 4 a4) 5 a5) 6 a6) 7 a7) 8 a8) 9 a9) 10 a10) 11 a11) 12 a12) 13 a13) 14 a14) 15 a15)⟩
      have hFr : Aside0 (Fr (fun _ => False) W ((((((((((((((((wr.setCell ⟨W.heap.size + 1, 0, none⟩ (.int .i64 a0)).setCell ⟨W.heap.size + 1, 1, none⟩ (.int .i64 a1)).setCell ⟨W.heap.size + 1, 2, none⟩ (.int .i64 a2)).setCell ⟨W.heap.size + 1, 3, none⟩ (.int .i64 a3)).setCell ⟨W.heap.size + 1, 4, none⟩ (.int .i64 a4)).setCell ⟨W.heap.size + 1, 5, none⟩ (.int .i64 a5)).setCell ⟨W.heap.size + 1, 6, none⟩ (.int .i64 a6)).setCell ⟨W.heap.size + 1, 7, none⟩ (.int .i64 a7)).setCell ⟨W.heap.size + 1, 8, none⟩ (.int .i64 a8)).setCell ⟨W.heap.size + 1, 9, none⟩ (.int .i64 a9)).setCell ⟨W.heap.size + 1, 10, none⟩ (.int .i64 a10)).setCell ⟨W.heap.size + 1, 11, none⟩ (.int .i64 a11)).setCell ⟨W.heap.size + 1, 12, none⟩ (.int .i64 a12)).setCell ⟨W.heap.size + 1, 13, none⟩ (.int .i64 a13)).setCell ⟨W.heap.size + 1, 14, none⟩ (.int .i64 a14)).setCell ⟨W.heap.size + 1, 15, none⟩ (.int .i64 a15))) := ⟨(Fr.set_ (Fr.set_ (Fr.set_ (Fr.set_ (Fr.set_ (Fr.set_ (Fr.set_ (Fr.set_ (Fr.set_ (Fr.set_ (Fr.set_ (Fr.set_ (Fr.set_ (Fr.set_ (Fr.set_ (Fr.set_ HF ⟨W.heap.size + 1, 0, none⟩ (.int .i64 a0) (fun h => absurd h (by show ¬ W.heap.size + 1 < W.heap.size; omega))) ⟨W.heap.size + 1, 1, none⟩ (.int .i64 a1) (fun h => absurd h (by show ¬ W.heap.size + 1 < W.heap.size; omega))) ⟨W.heap.size + 1, 2, none⟩ (.int .i64 a2) (fun h => absurd h (by show ¬ W.heap.size + 1 < W.heap.size; omega))) ⟨W.heap.size + 1, 3, none⟩ (.int .i64 a3) (fun h => absurd h (by show ¬ W.heap.size + 1 < W.heap.size; omega))) ⟨W.heap.size + 1, 4, none⟩ (.int .i64 a4) (fun h => absurd h (by show ¬ W.heap.size + 1 < W.heap.size; omega))) ⟨W.heap.size + 1, 5, none⟩ (.int .i64 a5) (fun h => absurd h (by show ¬ W.heap.size + 1 < W.heap.size; omega))) ⟨W.heap.size + 1, 6, none⟩ (.int .i64 a6) (fun h => absurd h (by show ¬ W.heap.size + 1 < W.heap.size; omega))) ⟨W.heap.size + 1, 7, none⟩ (.int .i64 a7) (fun h => absurd h (by show ¬ W.heap.size + 1 < W.heap.size; omega))) ⟨W.heap.size + 1, 8, none⟩ (.int .i64 a8) (fun h => absurd h (by show ¬ W.heap.size + 1 < W.heap.size; omega))) ⟨W.heap.size + 1, 9, none⟩ (.int .i64 a9) (fun h => absurd h (by show ¬ W.heap.size + 1 < W.heap.size; omega))) ⟨W.heap.size + 1, 10, none⟩ (.int .i64 a10) (fun h => absurd h (by show ¬ W.heap.size + 1 < W.heap.size; omega))) ⟨W.heap.size + 1, 11, none⟩ (.int .i64 a11) (fun h => absurd h (by show ¬ W.heap.size + 1 < W.heap.size; omega))) ⟨W.heap.size + 1, 12, none⟩ (.int .i64 a12) (fun h => absurd h (by show ¬ W.heap.size + 1 < W.heap.size; omega))) ⟨W.heap.size + 1, 13, none⟩ (.int .i64 a13) (fun h => absurd h (by show ¬ W.heap.size + 1 < W.heap.size; omega))) ⟨W.heap.size + 1, 14, none⟩ (.int .i64 a14) (fun h => absurd h (by show ¬ W.heap.size + 1 < W.heap.size; omega))) ⟨W.heap.size + 1, 15, none⟩ (.int .i64 a15) (fun h => absurd h (by show ¬ W.heap.size + 1 < W.heap.size; omega)))⟩
      replace hff := Aside0.mk hff
      clear HN0 HM HN HF HR ho hlen hbd hn
      go_wp2
      obtain ⟨W9, hW9⟩ : ∃ W9, ((((((((((((((((wr.setCell ⟨W.heap.size + 1, 0, none⟩ (.int .i64 a0)).setCell ⟨W.heap.size + 1, 1, none⟩ (.int .i64 a1)).setCell ⟨W.heap.size + 1, 2, none⟩ (.int .i64 a2)).setCell ⟨W.heap.size + 1, 3, none⟩ (.int .i64 a3)).setCell ⟨W.heap.size + 1, 4, none⟩ (.int .i64 a4)).setCell ⟨W.heap.size + 1, 5, none⟩ (.int .i64 a5)).setCell ⟨W.heap.size + 1, 6, none⟩ (.int .i64 a6)).setCell ⟨W.heap.size + 1, 7, none⟩ (.int .i64 a7)).setCell ⟨W.heap.size + 1, 8, none⟩ (.int .i64 a8)).setCell ⟨W.heap.size + 1, 9, none⟩ (.int .i64 a9)).setCell ⟨W.heap.size + 1, 10, none⟩ (.int .i64 a10)).setCell ⟨W.heap.size + 1, 11, none⟩ (.int .i64 a11)).setCell ⟨W.heap.size + 1, 12, none⟩ (.int .i64 a12)).setCell ⟨W.heap.size + 1, 13, none⟩ (.int .i64 a13)).setCell ⟨W.heap.size + 1, 14, none⟩ (.int .i64 a14)).setCell ⟨W.heap.size + 1, 15, none⟩ (.int .i64 a15)) = W9 := ⟨_, rfl⟩
      rw [hW9] at hEnd hFr ⊢
      refine bodyPost_ret (v := aggN [a0, a1, a2, a3, a4, a5, a6, a7, a8, a9, a10, a11, a12, a13, a14, a15]) (results_cell_row rfl _ _ (W.heap.size + 1) 80 (nums .i64 [a0, a1, a2, a3, a4, a5, a6, a7, a8, a9, a10, a11, a12, a13, a14, a15]).toArray (0, 0) _ rfl hEnd.out.1 Try.underlying80 rfl info80) rfl ?_
      exact ⟨by rw [← hff.out], hFr.out⟩
end Go.Proofs.Ytpldapjcojjicaa.B
