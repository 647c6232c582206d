/- Layer 2 (huff): Check: its contract. Joined of texts: Layer 2 (huff): whether a list holds a number that is no length (no count): contracts. Layer 2 (huff): how many codes there are of each length: the contract of counted. -/
import Derived.Test.YtpldapjcojjicaaFr
import Derived.Test.YtpldapjcojjicaaPm0
namespace Go.Proofs.Ytpldapjcojjicaa.B
open Go.RowKit Go.Proofs.YtpldapjcojjicaaW.PrintWords Go.Proofs.YtpldapjcojjicaaW.PrintLast Go.Proofs.YtpldapjcojjicaaW.PrintMore
set_option linter.unusedVariables false
set_option linter.unusedSimpArgs false

def badLen (x : Int) : Bool := decide (x < 0) || decide (15 < x)
theorem check1_calls (W : World) (x : Int) : Calls Try.prog 49 #[.int .i64 x] W fun e W' => e = .returned (.bool (badLen x)) ∧ W' = W := by
  unfold badLen
  by_cases h0 : x < 0
  · have k0 : decide (x < 0) = true := decide_eq_true h0
    go_enter Try.func49, Try.ntmps49
    go_wp2
    go_ret
    simp [k0]
  · have k0 : decide (x < 0) = false := decide_eq_false h0
    go_enter Try.func49, Try.ntmps49
    go_wp2
    go_ret
    simp [k0]

/-- The first place of a bad one from i on. -/
def findBad (bad : Int → Bool) : List Int → Nat → Int
  | [], _ => -1
  | x :: r, i => if bad x = true then (i : Int) else findBad bad r (i + 1)
theorem findBad_cons (bad : Int → Bool) (x : Int) (r : List Int) (i : Nat) : findBad bad (x :: r) i = if bad x = true then (i : Int) else findBad bad r (i + 1) := rfl
theorem findBad_range (bad : Int → Bool) : ∀ (l : List Int) (i : Nat), (0 ≤ findBad bad l i) ↔ l.any bad = true
  | [], i => by simp [findBad]
  | x :: r, i => by
    unfold findBad
    by_cases h : bad x = true
    · rw [if_pos h]
      simp [h]
    · rw [if_neg h, findBad_range bad r (i + 1)]
      simp [h]
set_option maxHeartbeats 1000000 in
set_option maxRecDepth 100000 in
theorem index49_calls (W : World) (A : Option Addr) (c : Nat) (l : List Int) (hC : Kd.C (Kd.int .i64) W A l.length l) (hl : l.length ≤ 100000000000000) :
    Calls Try.prog 64 #[.slice A l.length c, .func (.func 49) #[] #[]] W fun e W' => e = .returned (.int .i64 (findBad badLen l 0)) ∧ W' = W := by
  have hC := Aside0.mk hC
  go_enter Try.func64, Try.ntmps64
  go_wp2
  go_loopg [8] l.length (fun gh v8 wr => ∃ i : Nat, v8 = .int .i64 (i : Int) ∧ i ≤ l.length ∧ l.length - i ≤ gh ∧ Aside0 (findBad badLen (l.drop i) i = findBad badLen l 0) ∧ wr = W)
  case atStart => exact ⟨0, rfl, Nat.zero_le _, by omega, ⟨by simp⟩, rfl⟩
  case round =>
    obtain ⟨i, rfl, hi, hg, hF, rfl⟩ := hrel
    by_cases hc : i < l.length
    · have hcb : decide ((i : Int) < (l.length : Int)) = true := decide_eq_true (by omega)
      have hcb' : decide (i < l.length) = true := decide_eq_true hc
      obtain ⟨ad, eA, hx⟩ := Kd.at_int hC.out (i : Int) (by omega) (by omega)
      cases eA
      have p0 := eq_true (show (0 : Int) ≤ (i : Int) by omega)
      have q0 := eq_true (show (i : Int) < (l.length : Int) by omega)
      obtain ⟨x, hxx⟩ : ∃ x, rd l (i : Int) = x := ⟨_, rfl⟩
      rw [hxx] at hx
      have hdr : l.drop i = x :: l.drop (i + 1) := by
        rw [List.drop_eq_getElem_cons hc, ← hxx]
        unfold rd
        rw [Int.toNat_natCast, List.getD_eq_getElem?_getD, List.getElem?_eq_getElem hc]
        rfl
      have hF2 := hF.out
      rw [hdr, findBad_cons] at hF2
      rw [Int.toNat_natCast] at hx
      by_cases hb : badLen x = true
      · rw [if_pos hb] at hF2
        replace hF2 := Aside0.mk hF2
        clear hdr hxx hF
        go_wp2_with (go_at_call 49; refine (check1_calls _ x).mono ?_; rintro e w1 ⟨rfl, rfl⟩)
        go_ret
        exact ⟨by rw [hF2.out]; rfl, rfl⟩
      · rw [if_neg hb] at hF2
        have hb : badLen x = false := by simpa using hb
        replace hF2 := Aside0.mk hF2
        clear hdr hxx hF
        go_wp2_with (go_at_call 49; refine (check1_calls _ x).mono ?_; rintro e w1 ⟨rfl, rfl⟩)
        go_roundg (l.length - (i + 1))
        case measure => omega
        case rel => exact ⟨i + 1, by go_num, by omega, by omega, hF2, rfl⟩
    · have hcb : decide ((i : Int) < (l.length : Int)) = false := decide_eq_false (by omega)
      have hcb' : decide (i < l.length) = false := decide_eq_false hc
      have hF2 := hF.out
      rw [List.drop_eq_nil_of_le (by omega)] at hF2
      go_wp2
      go_ret
      exact ⟨by rw [← hF2]; rfl, rfl⟩
theorem contains49_calls (W : World) (A : Option Addr) (c : Nat) (l : List Int) (hC : Kd.C (Kd.int .i64) W A l.length l) (hl : l.length ≤ 100000000000000) :
    Calls Try.prog 48 #[.slice A l.length c, .func (.func 49) #[] #[]] W fun e W' => e = .returned (.bool (l.any badLen)) ∧ W' = W := by
  have hcall := Aside0.mk (index49_calls W A c l hC hl)
  have hany : decide (0 ≤ findBad badLen l 0) = l.any badLen := by
    have := findBad_range badLen l 0
    cases hh : l.any badLen
    · exact decide_eq_false (fun h => by rw [this.1 h] at hh; cases hh)
    · exact decide_eq_true (this.2 hh)
  clear hC
  go_enter Try.func48, Try.ntmps48
  go_wp2_with (go_at_call 64; refine hcall.out.mono ?_; rintro e w1 ⟨rfl, rfl⟩)
  go_ret
  exact ⟨by rw [← hany]; rfl, rfl⟩
def badCount (x : Int) : Bool := decide (x < 0) || decide (1000000000 < x)
theorem limit1_calls (W : World) (x : Int) : Calls Try.prog 53 #[.int .i64 x] W fun e W' => e = .returned (.bool (badCount x)) ∧ W' = W := by
  unfold badCount
  by_cases h0 : x < 0
  · have k0 : decide (x < 0) = true := decide_eq_true h0
    go_enter Try.func53, Try.ntmps53
    go_wp2
    go_ret
    simp [k0]
  · have k0 : decide (x < 0) = false := decide_eq_false h0
    go_enter Try.func53, Try.ntmps53
    go_wp2
    go_ret
    simp [k0]

set_option maxHeartbeats 1000000 in
set_option maxRecDepth 100000 in
theorem index53_calls (W : World) (A : Option Addr) (c : Nat) (l : List Int) (hC : Kd.C (Kd.int .i64) W A l.length l) (hl : l.length ≤ 100000000000000) :
    Calls Try.prog 64 #[.slice A l.length c, .func (.func 53) #[] #[]] W fun e W' => e = .returned (.int .i64 (findBad badCount l 0)) ∧ W' = W := by
  have hC := Aside0.mk hC
  go_enter Try.func64, Try.ntmps64
  go_wp2
  go_loopg [8] l.length (fun gh v8 wr => ∃ i : Nat, v8 = .int .i64 (i : Int) ∧ i ≤ l.length ∧ l.length - i ≤ gh ∧ Aside0 (findBad badCount (l.drop i) i = findBad badCount l 0) ∧ wr = W)
  case atStart => exact ⟨0, rfl, Nat.zero_le _, by omega, ⟨by simp⟩, rfl⟩
  case round =>
    obtain ⟨i, rfl, hi, hg, hF, rfl⟩ := hrel
    by_cases hc : i < l.length
    · have hcb : decide ((i : Int) < (l.length : Int)) = true := decide_eq_true (by omega)
      have hcb' : decide (i < l.length) = true := decide_eq_true hc
      obtain ⟨ad, eA, hx⟩ := Kd.at_int hC.out (i : Int) (by omega) (by omega)
      cases eA
      have p0 := eq_true (show (0 : Int) ≤ (i : Int) by omega)
      have q0 := eq_true (show (i : Int) < (l.length : Int) by omega)
      obtain ⟨x, hxx⟩ : ∃ x, rd l (i : Int) = x := ⟨_, rfl⟩
      rw [hxx] at hx
      have hdr : l.drop i = x :: l.drop (i + 1) := by
        rw [List.drop_eq_getElem_cons hc, ← hxx]
        unfold rd
        rw [Int.toNat_natCast, List.getD_eq_getElem?_getD, List.getElem?_eq_getElem hc]
        rfl
      have hF2 := hF.out
      rw [hdr, findBad_cons] at hF2
      rw [Int.toNat_natCast] at hx
      by_cases hb : badCount x = true
      · rw [if_pos hb] at hF2
        replace hF2 := Aside0.mk hF2
        clear hdr hxx hF
        go_wp2_with (go_at_call 53; refine (limit1_calls _ x).mono ?_; rintro e w1 ⟨rfl, rfl⟩)
        go_ret
        exact ⟨by rw [hF2.out]; rfl, rfl⟩
      · rw [if_neg hb] at hF2
        have hb : badCount x = false := by simpa using hb
        replace hF2 := Aside0.mk hF2
        clear hdr hxx hF
        go_wp2_with (go_at_call 53; refine (limit1_calls _ x).mono ?_; rintro e w1 ⟨rfl, rfl⟩)
        go_roundg (l.length - (i + 1))
        case measure => omega
        case rel => exact ⟨i + 1, by go_num, by omega, by omega, hF2, rfl⟩
    · have hcb : decide ((i : Int) < (l.length : Int)) = false := decide_eq_false (by omega)
      have hcb' : decide (i < l.length) = false := decide_eq_false hc
      have hF2 := hF.out
      rw [List.drop_eq_nil_of_le (by omega)] at hF2
      go_wp2
      go_ret
      exact ⟨by rw [← hF2]; rfl, rfl⟩
theorem contains53_calls (W : World) (A : Option Addr) (c : Nat) (l : List Int) (hC : Kd.C (Kd.int .i64) W A l.length l) (hl : l.length ≤ 100000000000000) :
    Calls Try.prog 48 #[.slice A l.length c, .func (.func 53) #[] #[]] W fun e W' => e = .returned (.bool (l.any badCount)) ∧ W' = W := by
  have hcall := Aside0.mk (index53_calls W A c l hC hl)
  have hany : decide (0 ≤ findBad badCount l 0) = l.any badCount := by
    have := findBad_range badCount l 0
    cases hh : l.any badCount
    · exact decide_eq_false (fun h => by rw [this.1 h] at hh; cases hh)
    · exact decide_eq_true (this.2 hh)
  clear hC
  go_enter Try.func48, Try.ntmps48
  go_wp2_with (go_at_call 64; refine hcall.out.mono ?_; rintro e w1 ⟨rfl, rfl⟩)
  go_ret
  exact ⟨by rw [← hany]; rfl, rfl⟩
end Go.Proofs.Ytpldapjcojjicaa.B

namespace Go.Proofs.Ytpldapjcojjicaa.B
open Go.RowKit Go.Proofs.YtpldapjcojjicaaW.PrintWords Go.Proofs.YtpldapjcojjicaaW.PrintLast Go.Proofs.YtpldapjcojjicaaW.PrintMore
set_option linter.unusedVariables false
set_option linter.unusedSimpArgs false

/-- An array of 16 numbers at block g. -/
def IsN (W : World) (g : Nat) (n : List Int) : Prop := W.heap[g]? = some (.cells (nums .i64 n).toArray 80 (0, 0)) ∧ n.length = 16
def aggN (n : List Int) : Value := .agg (nums .i64 n).toArray
theorem IsN.cell {W : World} {g : Nat} {n : List Int} (h : IsN W g n) (j : Nat) (hj : j < 16) : W.cell? ⟨g, j, none⟩ = some (.int .i64 (n.getD j 0)) := by
  rw [blk_cell h.1 j]
  have hl : j < n.length := by rw [h.2]; exact hj
  simp [nums, List.getD_eq_getElem?_getD, List.getElem?_eq_getElem hl]
theorem IsN.set {W : World} {g : Nat} {n : List Int} (h : IsN W g n) (j : Nat) (x : Int) : IsN (W.setCell ⟨g, j, none⟩ (.int .i64 x)) g (n.set j x) := by
  refine ⟨?_, by rw [List.length_set]; exact h.2⟩
  have := blk_set h.1 j (.int .i64 x)
  rw [this]
  congr 2
  rw [List.setIfInBounds_toArray]
  congr 1
  simp [nums, List.map_set]
theorem IsN.shape {n : List Int} (h : n.length = 16) : ∃ a0 a1 a2 a3 a4 a5 a6 a7 a8 a9 a10 a11 a12 a13 a14 a15 : Int, n = [a0, a1, a2, a3, a4, a5, a6, a7, a8, a9, a10, a11, a12, a13, a14, a15] := by
  match n, h with
  | [a0, a1, a2, a3, a4, a5, a6, a7, a8, a9, a10, a11, a12, a13, a14, a15], _ => exact ⟨a0, a1, a2, a3, a4, a5, a6, a7, a8, a9, a10, a11, a12, a13, a14, a15, rfl⟩
theorem info80 : (Try.prog.info? 80).map (fun i => i.size) = some 16 := by kernel_rfl
/-- One more of a length. -/
def tally1 (n : List Int) (x : Int) : List Int := if 0 < x then n.set x.toNat (n.getD x.toNat 0 + 1) else n
def tally (l : List Int) : List Int := l.foldl tally1 (List.replicate 16 0)

set_option maxHeartbeats 1000000 in
set_option maxRecDepth 100000 in
theorem counted_calls (W : World) (A : Option Addr) (c : Nat) (l : List Int) (hC : Kd.C (Kd.int .i64) W A l.length l) (hl : l.length ≤ 100000000000000) (hb : l.any badLen = false) :
    Calls Try.prog 50 #[.slice A l.length c] W fun e W' => e = .returned (aggN (tally l)) ∧ Fr (fun _ => False) W W' := by
  have hC := Aside0.mk hC
  go_enter Try.func50, Try.ntmps50
  go_wp2
  have hN0 : Aside0 (IsN ((W.alloc (.cells (nums .i64 (List.replicate 16 0)).toArray 80)).alloc (.cells (nums .i64 (List.replicate 16 0)).toArray 80)) (W.heap.size + 1) (List.replicate 16 0)) := ⟨⟨by
    have := heap_alloc_new (W.alloc (.cells (nums .i64 (List.replicate 16 0)).toArray 80)) (.cells (nums .i64 (List.replicate 16 0)).toArray 80)
    rwa [show (W.alloc (.cells (nums .i64 (List.replicate 16 0)).toArray 80)).heap.size = W.heap.size + 1 by simp] at this, by simp⟩⟩
  have hM0 : Aside0 (IsN ((W.alloc (.cells (nums .i64 (List.replicate 16 0)).toArray 80)).alloc (.cells (nums .i64 (List.replicate 16 0)).toArray 80)) W.heap.size (List.replicate 16 0)) := ⟨⟨(heap_alloc_old _ _ (by simp)).trans (heap_alloc_new W _), by simp⟩⟩
  have hF0 : Aside0 (Fr (fun _ => False) W ((W.alloc (.cells (nums .i64 (List.replicate 16 0)).toArray 80)).alloc (.cells (nums .i64 (List.replicate 16 0)).toArray 80))) := ⟨((Fr.refl _ W).alloc _).alloc _⟩
  go_loopg [8] l.length (fun gh v8 wr => ∃ (i : Nat) (n : List Int), v8 = .int .i64 (i : Int) ∧ i ≤ l.length ∧ l.length - i ≤ gh ∧ Aside0 ((l.drop i).foldl tally1 n = tally l) ∧ Aside0 (IsN wr (W.heap.size + 1) n) ∧ Aside0 (IsN wr W.heap.size (List.replicate 16 0)) ∧ Aside0 (Fr (fun _ => False) W wr) ∧ Aside0 (∀ j, 0 ≤ n.getD j 0 ∧ n.getD j 0 ≤ (i : Int)))
  case atStart => exact ⟨0, _, rfl, Nat.zero_le _, by omega, ⟨rfl⟩, hN0, hM0, hF0, ⟨fun j => by rw [List.getD_eq_getElem?_getD, List.getElem?_replicate]; split <;> simp⟩⟩
  case round =>
    clear hN0 hM0 hF0
    obtain ⟨i, n, rfl, hi, hg, hT, HN, HM, HF, HJ⟩ := hrel
    by_cases hc : i < l.length
    · have hcb : decide ((i : Int) < (l.length : Int)) = true := decide_eq_true (by omega)
      have hcb' : decide (i < l.length) = true := decide_eq_true hc
      obtain ⟨ad, eA, hx⟩ := Kd.at_int hC.out (i : Int) (by omega) (by omega)
      cases eA
      replace hx := (HF.out.to_below (B := W.heap.size) (fun _ _ _ e => e) (Nat.le_refl _)).cell (World.block_lt_of_cell? W _ hx) |>.trans hx
      rw [Int.toNat_natCast] at hx
      have p0 := eq_true (show (0 : Int) ≤ (i : Int) by omega)
      have q0 := eq_true (show (i : Int) < (l.length : Int) by omega)
      obtain ⟨x, hxx⟩ : ∃ x, rd l (i : Int) = x := ⟨_, rfl⟩
      rw [hxx] at hx
      have hle : l[i] = x := by
        rw [← hxx]
        unfold rd
        rw [Int.toNat_natCast, List.getD_eq_getElem?_getD, List.getElem?_eq_getElem hc]
        rfl
      have hbx : badLen x = false := by
        have := List.any_eq_false.1 hb x (by rw [← hle]; exact List.getElem_mem _)
        simpa using this
      have hxb : 0 ≤ x ∧ x ≤ 15 := by
        unfold badLen at hbx
        simp at hbx
        omega
      have hT2 := hT.out
      rw [List.drop_eq_getElem_cons hc, hle, List.foldl_cons] at hT2
      unfold tally1 at hT2
      clear hbx hxx hle
      by_cases h0 : 0 < x
      · have h0b : decide (0 < x) = true := decide_eq_true h0
        rw [if_pos h0] at hT2
        replace hT2 := Aside0.mk hT2
        obtain ⟨y, hy⟩ : ∃ y, n.getD x.toNat 0 = y := ⟨_, rfl⟩
        have hyb := HJ.out x.toNat
        have hcy := HN.out.cell x.toNat (by omega)
        rw [hy] at hT2 hyb hcy
        have fy := blk_frozen HN.out.1 x.toNat
        have hy := Aside0.mk hy
        have p1 := eq_true hxb.1
        have q1 := eq_true (show x < 16 by omega)
        have hib : i ≤ 100000000000000 := by omega
        go_wp2
        go_roundg (l.length - (i + 1))
        case measure => omega
        case rel =>
          refine ⟨i + 1, n.set x.toNat (y + 1), by go_num, by omega, by omega, hT2, ⟨HN.out.set _ _⟩, ⟨⟨(Below.heap_setCell wr ⟨W.heap.size + 1, x.toNat, none⟩ (.int .i64 (y + 1)) W.heap.size (by show W.heap.size ≠ W.heap.size + 1; omega)).trans HM.out.1, HM.out.2⟩⟩, ⟨HF.out.set_ _ _ (fun hlt => by have : W.heap.size + 1 < W.heap.size := hlt; omega)⟩, ⟨fun j => ?_⟩⟩
          have hj := HJ.out j
          rw [List.getD_eq_getElem?_getD, List.getElem?_set]
          rw [List.getD_eq_getElem?_getD] at hj
          split
          · split
            · simp; omega
            · simp; omega
          · omega
      · have h0b : decide (0 < x) = false := decide_eq_false h0
        rw [if_neg h0] at hT2
        replace hT2 := Aside0.mk hT2
        go_wp2
        go_roundg (l.length - (i + 1))
        case measure => omega
        case rel => exact ⟨i + 1, n, by go_num, by omega, by omega, hT2, HN, HM, HF, ⟨fun j => by have := HJ.out j; omega⟩⟩
    · have hcb : decide ((i : Int) < (l.length : Int)) = false := decide_eq_false (by omega)
      have hcb' : decide (i < l.length) = false := decide_eq_false hc
      have hT2 := hT.out
      rw [List.drop_eq_nil_of_le (by omega), List.foldl_nil] at hT2
      replace hT2 := Aside0.mk hT2
      obtain ⟨a0, a1, a2, a3, a4, a5, a6, a7, a8, a9, a10, a11, a12, a13, a14, a15, hn⟩ := IsN.shape HN.out.2
      rw [hn] at HN hT2
      clear hn HJ hT
      have d0 : wr.cell? ⟨W.heap.size + 1, 0, none⟩ = some (.int .i64 a0) := HN.out.cell 0 (by decide)
      have d1 : wr.cell? ⟨W.heap.size + 1, 1, none⟩ = some (.int .i64 a1) := HN.out.cell 1 (by decide)
      have d2 : wr.cell? ⟨W.heap.size + 1, 2, none⟩ = some (.int .i64 a2) := HN.out.cell 2 (by decide)
      have d3 : wr.cell? ⟨W.heap.size + 1, 3, none⟩ = some (.int .i64 a3) := HN.out.cell 3 (by decide)
      have d4 : wr.cell? ⟨W.heap.size + 1, 4, none⟩ = some (.int .i64 a4) := HN.out.cell 4 (by decide)
      have d5 : wr.cell? ⟨W.heap.size + 1, 5, none⟩ = some (.int .i64 a5) := HN.out.cell 5 (by decide)
      have d6 : wr.cell? ⟨W.heap.size + 1, 6, none⟩ = some (.int .i64 a6) := HN.out.cell 6 (by decide)
      have d7 : wr.cell? ⟨W.heap.size + 1, 7, none⟩ = some (.int .i64 a7) := HN.out.cell 7 (by decide)
      have d8 : wr.cell? ⟨W.heap.size + 1, 8, none⟩ = some (.int .i64 a8) := HN.out.cell 8 (by decide)
      have d9 : wr.cell? ⟨W.heap.size + 1, 9, none⟩ = some (.int .i64 a9) := HN.out.cell 9 (by decide)
      have d10 : wr.cell? ⟨W.heap.size + 1, 10, none⟩ = some (.int .i64 a10) := HN.out.cell 10 (by decide)
      have d11 : wr.cell? ⟨W.heap.size + 1, 11, none⟩ = some (.int .i64 a11) := HN.out.cell 11 (by decide)
      have d12 : wr.cell? ⟨W.heap.size + 1, 12, none⟩ = some (.int .i64 a12) := HN.out.cell 12 (by decide)
      have d13 : wr.cell? ⟨W.heap.size + 1, 13, none⟩ = some (.int .i64 a13) := HN.out.cell 13 (by decide)
      have d14 : wr.cell? ⟨W.heap.size + 1, 14, none⟩ = some (.int .i64 a14) := HN.out.cell 14 (by decide)
      have d15 : wr.cell? ⟨W.heap.size + 1, 15, none⟩ = some (.int .i64 a15) := HN.out.cell 15 (by decide)
      have m0 : wr.cell? ⟨W.heap.size, 0, none⟩ = some (.int .i64 0) := HM.out.cell 0 (by decide)
      have m1 : wr.cell? ⟨W.heap.size, 1, none⟩ = some (.int .i64 0) := HM.out.cell 1 (by decide)
      have m2 : wr.cell? ⟨W.heap.size, 2, none⟩ = some (.int .i64 0) := HM.out.cell 2 (by decide)
      have m3 : wr.cell? ⟨W.heap.size, 3, none⟩ = some (.int .i64 0) := HM.out.cell 3 (by decide)
      have m4 : wr.cell? ⟨W.heap.size, 4, none⟩ = some (.int .i64 0) := HM.out.cell 4 (by decide)
      have m5 : wr.cell? ⟨W.heap.size, 5, none⟩ = some (.int .i64 0) := HM.out.cell 5 (by decide)
      have m6 : wr.cell? ⟨W.heap.size, 6, none⟩ = some (.int .i64 0) := HM.out.cell 6 (by decide)
      have m7 : wr.cell? ⟨W.heap.size, 7, none⟩ = some (.int .i64 0) := HM.out.cell 7 (by decide)
      have m8 : wr.cell? ⟨W.heap.size, 8, none⟩ = some (.int .i64 0) := HM.out.cell 8 (by decide)
      have m9 : wr.cell? ⟨W.heap.size, 9, none⟩ = some (.int .i64 0) := HM.out.cell 9 (by decide)
      have m10 : wr.cell? ⟨W.heap.size, 10, none⟩ = some (.int .i64 0) := HM.out.cell 10 (by decide)
      have m11 : wr.cell? ⟨W.heap.size, 11, none⟩ = some (.int .i64 0) := HM.out.cell 11 (by decide)
      have m12 : wr.cell? ⟨W.heap.size, 12, none⟩ = some (.int .i64 0) := HM.out.cell 12 (by decide)
      have m13 : wr.cell? ⟨W.heap.size, 13, none⟩ = some (.int .i64 0) := HM.out.cell 13 (by decide)
      have m14 : wr.cell? ⟨W.heap.size, 14, none⟩ = some (.int .i64 0) := HM.out.cell 14 (by decide)
      have m15 : wr.cell? ⟨W.heap.size, 15, none⟩ = some (.int .i64 0) := HM.out.cell 15 (by decide)
      have e0 := blk_frozen HM.out.1 0
      have e1 := blk_frozen HM.out.1 1
      have e2 := blk_frozen HM.out.1 2
      have e3 := blk_frozen HM.out.1 3
      have e4 := blk_frozen HM.out.1 4
      have e5 := blk_frozen HM.out.1 5
      have e6 := blk_frozen HM.out.1 6
      have e7 := blk_frozen HM.out.1 7
      have e8 := blk_frozen HM.out.1 8
      have e9 := blk_frozen HM.out.1 9
      have e10 := blk_frozen HM.out.1 10
      have e11 := blk_frozen HM.out.1 11
      have e12 := blk_frozen HM.out.1 12
      have e13 := blk_frozen HM.out.1 13
      have e14 := blk_frozen HM.out.1 14
      have e15 := blk_frozen HM.out.1 15
      have hEnd : Aside0 (IsN ((((((((((((((((wr.setCell ⟨W.heap.size, 0, none⟩ (.int .i64 a0)).setCell ⟨W.heap.size, 1, none⟩ (.int .i64 a1)).setCell ⟨W.heap.size, 2, none⟩ (.int .i64 a2)).setCell ⟨W.heap.size, 3, none⟩ (.int .i64 a3)).setCell ⟨W.heap.size, 4, none⟩ (.int .i64 a4)).setCell ⟨W.heap.size, 5, none⟩ (.int .i64 a5)).setCell ⟨W.heap.size, 6, none⟩ (.int .i64 a6)).setCell ⟨W.heap.size, 7, none⟩ (.int .i64 a7)).setCell ⟨W.heap.size, 8, none⟩ (.int .i64 a8)).setCell ⟨W.heap.size, 9, none⟩ (.int .i64 a9)).setCell ⟨W.heap.size, 10, none⟩ (.int .i64 a10)).setCell ⟨W.heap.size, 11, none⟩ (.int .i64 a11)).setCell ⟨W.heap.size, 12, none⟩ (.int .i64 a12)).setCell ⟨W.heap.size, 13, none⟩ (.int .i64 a13)).setCell ⟨W.heap.size, 14, none⟩ (.int .i64 a14)).setCell ⟨W.heap.size, 15, none⟩ (.int .i64 a15)) W.heap.size [a0, a1, a2, a3, a4, a5, a6, a7, a8, a9, a10, a11, a12, a13, a14, a15]) := ⟨(IsN.set (IsN.set (IsN.set (IsN.set (IsN.set (IsN.set (IsN.set (IsN.set (IsN.set (IsN.set (IsN.set (IsN.set (IsN.set (IsN.set (IsN.set (IsN.set HM.out 0 a0) 1 a1) 2 a2) 3 a3) 4 a4) 5 a5) 6 a6) 7 a7) 8 a8) 9 a9) 10 a10) 11 a11) 12 a12) 13 a13) 14 a14) 15 a15)⟩
      have hFr : Aside0 (Fr (fun _ => False) W ((((((((((((((((wr.setCell ⟨W.heap.size, 0, none⟩ (.int .i64 a0)).setCell ⟨W.heap.size, 1, none⟩ (.int .i64 a1)).setCell ⟨W.heap.size, 2, none⟩ (.int .i64 a2)).setCell ⟨W.heap.size, 3, none⟩ (.int .i64 a3)).setCell ⟨W.heap.size, 4, none⟩ (.int .i64 a4)).setCell ⟨W.heap.size, 5, none⟩ (.int .i64 a5)).setCell ⟨W.heap.size, 6, none⟩ (.int .i64 a6)).setCell ⟨W.heap.size, 7, none⟩ (.int .i64 a7)).setCell ⟨W.heap.size, 8, none⟩ (.int .i64 a8)).setCell ⟨W.heap.size, 9, none⟩ (.int .i64 a9)).setCell ⟨W.heap.size, 10, none⟩ (.int .i64 a10)).setCell ⟨W.heap.size, 11, none⟩ (.int .i64 a11)).setCell ⟨W.heap.size, 12, none⟩ (.int .i64 a12)).setCell ⟨W.heap.size, 13, none⟩ (.int .i64 a13)).setCell ⟨W.heap.size, 14, none⟩ (.int .i64 a14)).setCell ⟨W.heap.size, 15, none⟩ (.int .i64 a15))) := ⟨(Fr.set_ (Fr.set_ (Fr.set_ (Fr.set_ (Fr.set_ (Fr.set_ (Fr.set_ (Fr.set_ (Fr.set_ (Fr.set_ (Fr.set_ (Fr.set_ (Fr.set_ (Fr.set_ (Fr.set_ (Fr.set_ HF.out ⟨W.heap.size, 0, none⟩ (.int .i64 a0) (fun h => absurd h (Nat.lt_irrefl _))) ⟨W.heap.size, 1, none⟩ (.int .i64 a1) (fun h => absurd h (Nat.lt_irrefl _))) ⟨W.heap.size, 2, none⟩ (.int .i64 a2) (fun h => absurd h (Nat.lt_irrefl _))) ⟨W.heap.size, 3, none⟩ (.int .i64 a3) (fun h => absurd h (Nat.lt_irrefl _))) ⟨W.heap.size, 4, none⟩ (.int .i64 a4) (fun h => absurd h (Nat.lt_irrefl _))) ⟨W.heap.size, 5, none⟩ (.int .i64 a5) (fun h => absurd h (Nat.lt_irrefl _))) ⟨W.heap.size, 6, none⟩ (.int .i64 a6) (fun h => absurd h (Nat.lt_irrefl _))) ⟨W.heap.size, 7, none⟩ (.int .i64 a7) (fun h => absurd h (Nat.lt_irrefl _))) ⟨W.heap.size, 8, none⟩ (.int .i64 a8) (fun h => absurd h (Nat.lt_irrefl _))) ⟨W.heap.size, 9, none⟩ (.int .i64 a9) (fun h => absurd h (Nat.lt_irrefl _))) ⟨W.heap.size, 10, none⟩ (.int .i64 a10) (fun h => absurd h (Nat.lt_irrefl _))) ⟨W.heap.size, 11, none⟩ (.int .i64 a11) (fun h => absurd h (Nat.lt_irrefl _))) ⟨W.heap.size, 12, none⟩ (.int .i64 a12) (fun h => absurd h (Nat.lt_irrefl _))) ⟨W.heap.size, 13, none⟩ (.int .i64 a13) (fun h => absurd h (Nat.lt_irrefl _))) ⟨W.heap.size, 14, none⟩ (.int .i64 a14) (fun h => absurd h (Nat.lt_irrefl _))) ⟨W.heap.size, 15, none⟩ (.int .i64 a15) (fun h => absurd h (Nat.lt_irrefl _)))⟩
      go_wp2
      obtain ⟨W9, hW9⟩ : ∃ W9, ((((((((((((((((wr.setCell ⟨W.heap.size, 0, none⟩ (.int .i64 a0)).setCell ⟨W.heap.size, 1, none⟩ (.int .i64 a1)).setCell ⟨W.heap.size, 2, none⟩ (.int .i64 a2)).setCell ⟨W.heap.size, 3, none⟩ (.int .i64 a3)).setCell ⟨W.heap.size, 4, none⟩ (.int .i64 a4)).setCell ⟨W.heap.size, 5, none⟩ (.int .i64 a5)).setCell ⟨W.heap.size, 6, none⟩ (.int .i64 a6)).setCell ⟨W.heap.size, 7, none⟩ (.int .i64 a7)).setCell ⟨W.heap.size, 8, none⟩ (.int .i64 a8)).setCell ⟨W.heap.size, 9, none⟩ (.int .i64 a9)).setCell ⟨W.heap.size, 10, none⟩ (.int .i64 a10)).setCell ⟨W.heap.size, 11, none⟩ (.int .i64 a11)).setCell ⟨W.heap.size, 12, none⟩ (.int .i64 a12)).setCell ⟨W.heap.size, 13, none⟩ (.int .i64 a13)).setCell ⟨W.heap.size, 14, none⟩ (.int .i64 a14)).setCell ⟨W.heap.size, 15, none⟩ (.int .i64 a15)) = W9 := ⟨_, rfl⟩
      rw [hW9] at hEnd hFr ⊢
      refine bodyPost_ret (v := aggN [a0, a1, a2, a3, a4, a5, a6, a7, a8, a9, a10, a11, a12, a13, a14, a15]) (results_cell_row rfl _ _ W.heap.size 80 (nums .i64 [a0, a1, a2, a3, a4, a5, a6, a7, a8, a9, a10, a11, a12, a13, a14, a15]).toArray (0, 0) _ rfl hEnd.out.1 Try.underlying80 rfl info80) rfl ?_
      exact ⟨by rw [← hT2.out], hFr.out⟩
end Go.Proofs.Ytpldapjcojjicaa.B

namespace Go.Proofs.Ytpldapjcojjicaa.B
open Go.RowKit Go.Proofs.YtpldapjcojjicaaW.PrintWords Go.Proofs.YtpldapjcojjicaaW.PrintLast Go.Proofs.YtpldapjcojjicaaW.PrintMore
set_option linter.unusedVariables false
set_option linter.unusedSimpArgs false

theorem run_index80 (w : World) (cs : Array Value) (k : Nat) (hk : k < 16) (y : Int) (h : cs[k]? = some (.int .i64 y)) :
    (Instr.index 80 (.agg cs) (.int .i64 (k : Int))).run Try.prog w = .ok (.int .i64 y) w := by
  have h1 : (0 : Int) ≤ (k : Int) ∧ (k : Int) < ((16 : Nat) : Int) := by omega
  simp [Instr.index, run_underlying Try.underlying80, asIntOf, part, h, hk, go_sem]
def kraft (n : List Int) : Nat → Int
  | 0 => 0
  | k + 1 => kraft n k + n.getD k 0 * 2 ^ (15 - k)
def manyN (n : List Int) : Nat → Int
  | 0 => 0
  | k + 1 => manyN n k + n.getD k 0
theorem tally1_len (n : List Int) (x : Int) : (tally1 n x).length = n.length := by
  unfold tally1
  split
  · rw [List.length_set]
  · rfl
theorem foldl_len : ∀ (l : List Int) (n : List Int), (l.foldl tally1 n).length = n.length
  | [], _ => rfl
  | x :: r, n => by rw [List.foldl_cons, foldl_len r, tally1_len]
theorem tally_len (l : List Int) : (tally l).length = 16 := by
  unfold tally
  rw [foldl_len]
  simp
theorem foldl_bd : ∀ (l : List Int) (n : List Int) (b : Int), 0 ≤ b → (∀ j, 0 ≤ n.getD j 0 ∧ n.getD j 0 ≤ b) → ∀ j, 0 ≤ (l.foldl tally1 n).getD j 0 ∧ (l.foldl tally1 n).getD j 0 ≤ b + l.length
  | [], n, b, _, h, j => by simpa using h j
  | x :: r, n, b, hb, h, j => by
    rw [List.foldl_cons]
    have h1 : ∀ j, 0 ≤ (tally1 n x).getD j 0 ∧ (tally1 n x).getD j 0 ≤ b + 1 := fun j => by
      unfold tally1
      have hj := h j
      have hx := h x.toNat
      split
      · rw [List.getD_eq_getElem?_getD, List.getElem?_set]
        rw [List.getD_eq_getElem?_getD] at hj
        split
        · split
          · simp only [Option.getD_some]; omega
          · simp only [Option.getD_none]; omega
        · omega
      · omega
    have := foldl_bd r (tally1 n x) (b + 1) (by omega) h1 j
    rw [List.length_cons]
    omega
theorem tally_bd (l : List Int) (j : Nat) : 0 ≤ (tally l).getD j 0 ∧ (tally l).getD j 0 ≤ l.length := by
  have := foldl_bd l (List.replicate 16 0) 0 (by omega) (fun j => by rw [List.getD_eq_getElem?_getD, List.getElem?_replicate]; split <;> simp) j
  unfold tally
  omega
theorem kraft_w (s y : Int) (k : Nat) (h0 : 0 ≤ s) (h1 : s ≤ 9437184 * 16) (y0 : 0 ≤ y) (y1 : y ≤ 288) : wrap64 (s + wrap64 (y * 2 ^ (15 - k))) = s + y * 2 ^ (15 - k) := by
  have hp0 := Nat.two_pow_pos (15 - k)
  have hp : (2 : Nat) ^ (15 - k) ≤ 32768 := two_pow_le (j := 15) (by omega)
  have hm1 : y * 2 ^ (15 - k) ≤ 288 * 32768 := by
    rw [pow_cast]
    exact Int.mul_le_mul (by omega) (by omega) (by omega) (by omega)
  have hm0 : 0 ≤ y * 2 ^ (15 - k) := by
    rw [pow_cast]
    exact Int.mul_nonneg y0 (by omega)
  generalize y * 2 ^ (15 - k) = z at *
  rw [w64' z (by omega), w64' _ (by omega)]
theorem kraft_bd (n : List Int) (b : Nat) (hb : b ≤ 288) (h : ∀ j, 0 ≤ n.getD j 0 ∧ n.getD j 0 ≤ (b : Int)) : ∀ k, k ≤ 16 → 0 ≤ kraft n k ∧ kraft n k ≤ 9437184 * k ∧ 0 ≤ manyN n k ∧ manyN n k ≤ 288 * k
  | 0, _ => ⟨Int.le_refl _, Int.le_refl _, Int.le_refl _, Int.le_refl _⟩
  | k + 1, hk => by
    have ih := kraft_bd n b hb h k (by omega)
    have hj := h k
    have hp : (2 : Nat) ^ (15 - k) ≤ 32768 := two_pow_le (j := 15) (by omega)
    have hp0 := Nat.two_pow_pos (15 - k)
    have hm1 : n.getD k 0 * 2 ^ (15 - k) ≤ 288 * 32768 := by
      rw [pow_cast]
      exact Int.mul_le_mul (by omega) (by omega) (by omega) (by omega)
    have hm0 : 0 ≤ n.getD k 0 * 2 ^ (15 - k) := by
      rw [pow_cast]
      exact Int.mul_nonneg hj.1 (by omega)
    show 0 ≤ kraft n k + n.getD k 0 * 2 ^ (15 - k) ∧ kraft n k + n.getD k 0 * 2 ^ (15 - k) ≤ _ ∧ 0 ≤ manyN n k + n.getD k 0 ∧ manyN n k + n.getD k 0 ≤ _
    generalize n.getD k 0 * 2 ^ (15 - k) = z at hm0 hm1 ⊢
    omega
/-- What Check tells. -/
def checkF (l : List Int) : Int :=
  if 288 < l.length ∨ l.any badLen = true then 1
  else if 32768 < kraft (tally l) 16 then 10
  else if kraft (tally l) 16 < 32768 ∧ 0 < manyN (tally l) 16 ∧ (1 < manyN (tally l) 16 ∨ (tally l).getD 1 0 = 0) then 11 else 0

set_option maxHeartbeats 1000000 in
set_option maxRecDepth 100000 in
theorem check_calls (W : World) (A : Option Addr) (c : Nat) (l : List Int) (hC : Kd.C (Kd.int .i64) W A l.length l) (hl : l.length ≤ 100000000000000) :
    Calls Try.prog 34 #[.slice A l.length c] W fun e W' => e = .returned (.int .i64 (checkF l)) ∧ Fr (fun _ => False) W W' := by
  have hcont := Aside0.mk (contains49_calls W A c l hC hl)
  unfold checkF
  by_cases h0 : 288 < l.length
  · have k0 : decide ((288 : Int) < (l.length : Int)) = true := decide_eq_true (by omega)
    have k0' : decide (288 < l.length) = true := decide_eq_true h0
    rw [if_pos (.inl h0)]
    go_enter Try.func34, Try.ntmps34
    go_wp2
    go_ret
    exact ⟨rfl, Fr.refl _ _⟩
  · have k0 : decide ((288 : Int) < (l.length : Int)) = false := decide_eq_false (by omega)
    have k0' : decide (288 < l.length) = false := decide_eq_false h0
    cases hb : l.any badLen
    case true =>
      rw [if_pos (.inr rfl)]
      rw [hb] at hcont
      go_enter Try.func34, Try.ntmps34
      go_wp2_with (go_at_call 48; refine hcont.out.mono ?_; rintro e w1 ⟨rfl, rfl⟩)
      go_ret
      exact ⟨rfl, Fr.refl _ _⟩
    case false =>
      rw [if_neg (by simp [h0])]
      rw [hb] at hcont
      have hcnt := counted_calls W A c l hC hl hb
      have hbd := tally_bd l
      have hln := tally_len l
      generalize tally l = n at *
      have hbd := Aside0.mk hbd
      obtain ⟨a0, a1, a2, a3, a4, a5, a6, a7, a8, a9, a10, a11, a12, a13, a14, a15, hn⟩ := IsN.shape hln
      have hag : aggN n = .agg #[.int .i64 a0, .int .i64 a1, .int .i64 a2, .int .i64 a3, .int .i64 a4, .int .i64 a5, .int .i64 a6, .int .i64 a7, .int .i64 a8, .int .i64 a9, .int .i64 a10, .int .i64 a11, .int .i64 a12, .int .i64 a13, .int .i64 a14, .int .i64 a15] := by rw [hn]; rfl
      rw [hag] at hcnt
      replace hcnt := Aside0.mk hcnt
      have hn := Aside0.mk hn
      clear hag
      generalize hres : (if 32768 < kraft n 16 then (10 : Int) else if kraft n 16 < 32768 ∧ 0 < manyN n 16 ∧ (1 < manyN n 16 ∨ n.getD 1 0 = 0) then 11 else 0) = res
      replace hres := Aside0.mk hres
      go_enter Try.func34, Try.ntmps34
      go_wp2_with (first | (go_at_call 48; refine hcont.out.mono ?_; rintro e w1 ⟨rfl, rfl⟩) | (go_at_call 50; refine hcnt.out.mono ?_; rintro e w2 ⟨rfl, f2⟩))
      obtain ⟨W3, hW3⟩ : ∃ W3, w2.alloc (.cells #[.int .i64 a0, .int .i64 a1, .int .i64 a2, .int .i64 a3, .int .i64 a4, .int .i64 a5, .int .i64 a6, .int .i64 a7, .int .i64 a8, .int .i64 a9, .int .i64 a10, .int .i64 a11, .int .i64 a12, .int .i64 a13, .int .i64 a14, .int .i64 a15] 80) = W3 := ⟨_, rfl⟩
      have hF3 : Aside0 (Fr (fun _ => False) w1 W3) := ⟨by rw [← hW3]; exact f2.alloc _⟩
      have c1 : W3.cell? ⟨w2.heap.size, 1, none⟩ = some (.int .i64 a1) := by rw [← hW3]; exact (blk_cell (heap_alloc_new w2 _) 1).trans rfl
      obtain ⟨G, hG⟩ : ∃ G, w2.heap.size = G := ⟨_, rfl⟩
      have hkb := Aside0.mk (kraft_bd n l.length (by omega) hbd.out)
      rw [hW3]
      rw [hG] at c1 ⊢
      clear hW3 hG f2
      go_loopg [4, 5, 18] 16 (fun gh v4 v5 v18 wr => ∃ (k : Nat) (s m : Int), v18 = .int .i64 (k : Int) ∧ k ≤ 16 ∧ 16 - k ≤ gh ∧ v4 = .int .i64 s ∧ v5 = .int .i64 m ∧ Aside0 (s = kraft n k) ∧ Aside0 (m = manyN n k) ∧ wr = W3)
      case atStart => exact ⟨0, 0, 0, rfl, by omega, by omega, rfl, rfl, ⟨rfl⟩, ⟨rfl⟩, rfl⟩
      case round =>
        obtain ⟨k, s, m, rfl, hk, hg, rfl, rfl, hs, hm, rfl⟩ := hrel
        by_cases hc : k < 16
        · have hcb : decide ((k : Int) < 16) = true := decide_eq_true (by omega)
          have hcb' : decide (k < 16) = true := decide_eq_true hc
          obtain ⟨y, hy⟩ : ∃ y, n.getD k 0 = y := ⟨_, rfl⟩
          have hyb := hbd.out k
          rw [hy] at hyb
          have hidx : #[.int .i64 a0, .int .i64 a1, .int .i64 a2, .int .i64 a3, .int .i64 a4, .int .i64 a5, .int .i64 a6, .int .i64 a7, .int .i64 a8, .int .i64 a9, .int .i64 a10, .int .i64 a11, .int .i64 a12, .int .i64 a13, .int .i64 a14, .int .i64 a15][k]? = some (Value.int .i64 y) := by
            rw [← hy, hn.out]
            have : ∀ j : Fin 16, #[.int .i64 a0, .int .i64 a1, .int .i64 a2, .int .i64 a3, .int .i64 a4, .int .i64 a5, .int .i64 a6, .int .i64 a7, .int .i64 a8, .int .i64 a9, .int .i64 a10, .int .i64 a11, .int .i64 a12, .int .i64 a13, .int .i64 a14, .int .i64 a15][j.val]? = some (Value.int .i64 ([a0, a1, a2, a3, a4, a5, a6, a7, a8, a9, a10, a11, a12, a13, a14, a15].getD j.val 0)) := fun j => by
              match j with
              | ⟨0, _⟩ => rfl
              | ⟨1, _⟩ => rfl
              | ⟨2, _⟩ => rfl
              | ⟨3, _⟩ => rfl
              | ⟨4, _⟩ => rfl
              | ⟨5, _⟩ => rfl
              | ⟨6, _⟩ => rfl
              | ⟨7, _⟩ => rfl
              | ⟨8, _⟩ => rfl
              | ⟨9, _⟩ => rfl
              | ⟨10, _⟩ => rfl
              | ⟨11, _⟩ => rfl
              | ⟨12, _⟩ => rfl
              | ⟨13, _⟩ => rfl
              | ⟨14, _⟩ => rfl
              | ⟨15, _⟩ => rfl
              | ⟨j + 16, h⟩ => exact absurd h (by omega)
            exact this ⟨k, hc⟩
          have hix := fun W => run_index80 W _ k hc y hidx
          have hy := Aside0.mk hy
          have hkb1 := hkb.out k (by omega)
          rw [← hs.out, ← hm.out] at hkb1
          have hyl : y ≤ 288 := by omega
          have hy0 : 0 ≤ y := hyb.1
          clear hyb
          go_wp2
          go_roundg (16 - (k + 1))
          case measure => omega
          case rel => exact ⟨k + 1, wrap64 (s + wrap64 (y * 2 ^ (15 - k))), m + y, by go_num, by omega, Nat.le_refl _, rfl, rfl, ⟨by rw [kraft_w s y k hkb1.1 (by omega) hy0 hyl, hs.out, ← hy.out]; rfl⟩, ⟨by rw [hm.out, ← hy.out]; rfl⟩, rfl⟩
        · have hcb : decide ((k : Int) < 16) = false := decide_eq_false (by omega)
          have hcb' : decide (k < 16) = false := decide_eq_false hc
          obtain rfl : k = 16 := by omega
          have e1 := Aside0.mk (show n.getD 1 0 = a1 by rw [hn.out]; rfl)
          clear hkb hcnt hcont
          by_cases g1 : 32768 < s
          · have k1 : decide (32768 < s) = true := decide_eq_true g1
            go_wp2
            go_ret
            exact ⟨by rw [← hres.out, ← hs.out, ← hm.out, e1.out, if_pos (by omega)]; rfl, hF3.out⟩
          · have k1 : decide (32768 < s) = false := decide_eq_false g1
            by_cases g2 : s < 32768
            · have k2 : decide (s < 32768) = true := decide_eq_true g2
              by_cases g3 : 0 < m
              · have k3 : decide (0 < m) = true := decide_eq_true g3
                by_cases g4 : 1 < m
                · have k4 : decide (1 < m) = true := decide_eq_true g4
                  go_wp2
                  go_ret
                  exact ⟨by rw [← hres.out, ← hs.out, ← hm.out, e1.out, if_neg (by omega), if_pos (by omega)]; rfl, hF3.out⟩
                · have k4 : decide (1 < m) = false := decide_eq_false g4
                  by_cases g5 : a1 = 0
                  · have k5 : (a1 == 0) = true := beq_iff_eq.mpr g5
                    go_wp2
                    go_ret
                    exact ⟨by rw [← hres.out, ← hs.out, ← hm.out, e1.out, if_neg (by omega), if_pos (by omega)]; rfl, hF3.out⟩
                  · have k5 : (a1 == 0) = false := beq_eq_false_iff_ne.mpr g5
                    go_wp2
                    go_ret
                    exact ⟨by rw [← hres.out, ← hs.out, ← hm.out, e1.out, if_neg (by omega), if_neg (by omega)]; rfl, hF3.out⟩
              · have k3 : decide (0 < m) = false := decide_eq_false g3
                go_wp2
                go_ret
                exact ⟨by rw [← hres.out, ← hs.out, ← hm.out, e1.out, if_neg (by omega), if_neg (by omega)]; rfl, hF3.out⟩
            · have k2 : decide (s < 32768) = false := decide_eq_false g2
              go_wp2
              go_ret
              exact ⟨by rw [← hres.out, ← hs.out, ← hm.out, e1.out, if_neg (by omega), if_neg (by omega)]; rfl, hF3.out⟩
end Go.Proofs.Ytpldapjcojjicaa.B
