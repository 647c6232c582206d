/- Layer 2 (huff): the table's Next: its contract. Joined of texts: Layer 2 (huff): tables in plain Lean: what Make, Next and the document's Next tell: the definitions. -/
import Derived.Test.YtpldapjcojjicaaRd2
import Derived.Test.YtpldapjcojjicaaCk
namespace Go.Proofs.Ytpldapjcojjicaa.B
open Go.RowKit Go.Proofs.YtpldapjcojjicaaW.PrintWords Go.Proofs.YtpldapjcojjicaaW.PrintLast Go.Proofs.YtpldapjcojjicaaW.PrintMore
set_option linter.unusedVariables false
set_option linter.unusedSimpArgs false

/-- The symbols that have codes, in their order; i is the first one's number. -/
def symGo : List Int → Nat → List Nat
  | [], _ => []
  | x :: r, i => if 0 < x then i :: symGo r (i + 1) else symGo r (i + 1)
theorem symGo_cons (x : Int) (r : List Int) (i : Nat) : symGo (x :: r) i = if 0 < x then i :: symGo r (i + 1) else symGo r (i + 1) := rfl
theorem symGo_mem : ∀ (l : List Int) (i x : Nat), x ∈ symGo l i → i ≤ x ∧ x < i + l.length
  | [], i, x, h => by cases h
  | y :: r, i, x, h => by
    rw [symGo_cons] at h
    rw [List.length_cons]
    split at h
    · rcases List.mem_cons.1 h with rfl | h
      · omega
      · have := symGo_mem r (i + 1) x h
        omega
    · have := symGo_mem r (i + 1) x h
      omega
/-- How many symbols have lengths below n + 1. -/
def seenF (N : List Int) : Nat → Int
  | 0 => 0
  | k + 1 => seenF N k + N.getD (k + 1) 0
/-- The document's look for a code of length n. -/
def findX (n code : Int) : List Int → List Int → Nat → Option Nat
  | x :: r, c :: s, i => if x = n ∧ c = code then some i else findX n code r s (i + 1)
  | _, _, _ => none
theorem findX_cons (n code x c : Int) (r s : List Int) (i : Nat) : findX n code (x :: r) (c :: s) i = if x = n ∧ c = code then some i else findX n code r s (i + 1) := rfl
/-- What a table's Next tells, from r lengths ahead of the end on: the number, the error, the reader behind. -/
def nextP (N : List Int) (S : List Nat) : Nat → Nat → Int → Int → Int → ByteArray → Nat → Nat → Int × Int × ByteArray × Nat × Nat
  | 0, _, _, _, _, d, h, m => (0, 12, d, h, m)
  | r + 1, n, code, start, seen, d, h, m =>
    if (rbitsF d h m 1).2.1 ≠ 0 then (0, (rbitsF d h m 1).2.1, (rbitsF d h m 1).2.2)
    else if 2 * code + (rbitsF d h m 1).1 - 2 * start < N.getD n 0 then ((S.getD (seen + (2 * code + (rbitsF d h m 1).1 - 2 * start)).toNat 0 : Nat), 0, (rbitsF d h m 1).2.2)
    else nextP N S r (n + 1) (2 * code + (rbitsF d h m 1).1) (2 * start + N.getD n 0) (seen + N.getD n 0) (rbitsF d h m 1).2.2.1 (rbitsF d h m 1).2.2.2.1 (rbitsF d h m 1).2.2.2.2
/-- What the document's Next tells. -/
def nextX (l C : List Int) : Nat → Nat → Int → ByteArray → Nat → Nat → Int × Int × ByteArray × Nat × Nat
  | 0, _, _, d, h, m => (0, 12, d, h, m)
  | r + 1, n, code, d, h, m =>
    if (rbitsF d h m 1).2.1 ≠ 0 then (0, (rbitsF d h m 1).2.1, (rbitsF d h m 1).2.2)
    else match findX n (2 * code + (rbitsF d h m 1).1) l C 0 with
      | some i => ((i : Nat), 0, (rbitsF d h m 1).2.2)
      | none => nextX l C r (n + 1) (2 * code + (rbitsF d h m 1).1) (rbitsF d h m 1).2.2.1 (rbitsF d h m 1).2.2.2.1 (rbitsF d h m 1).2.2.2.2
theorem rbitsF_bit (d : ByteArray) (h m : Nat) (hh : h < 2 ^ m) : 0 ≤ (rbitsF d h m 1).1 := by
  unfold rbitsF
  split
  · exact Int.le_refl _
  · split
    · exact Int.le_refl _
    · simp only []
      omega
theorem rbitsF_one (d : ByteArray) (h m : Nat) : 0 ≤ (rbitsF d h m 1).1 ∧ (rbitsF d h m 1).1 ≤ 1 := by
  unfold rbitsF
  split
  · exact ⟨Int.le_refl 0, show (0 : Int) ≤ 1 by decide⟩
  · split
    · exact ⟨Int.le_refl 0, show (0 : Int) ≤ 1 by decide⟩
    · simp only [show (1 : Int).toNat = 1 from rfl, Nat.pow_one]
      omega
theorem nextP_ok (N : List Int) (S : List Nat) : ∀ (r n : Nat) (code start seen : Int) (d : ByteArray) (h m : Nat), m ≤ 7 → h < 2 ^ m →
    (nextP N S r n code start seen d h m).2.2.2.1 < 2 ^ (nextP N S r n code start seen d h m).2.2.2.2 ∧ (nextP N S r n code start seen d h m).2.2.2.2 ≤ 7 ∧ (nextP N S r n code start seen d h m).2.2.1.size ≤ d.size
  | 0, n, code, start, seen, d, h, m, hm, hh => ⟨hh, hm, Nat.le_refl _⟩
  | r + 1, n, code, start, seen, d, h, m, hm, hh => by
    have hok := rbitsF_ok d h m 1 hm hh
    unfold nextP
    split
    · exact hok
    · split
      · exact hok
      · have := nextP_ok N S r (n + 1) (2 * code + (rbitsF d h m 1).1) (2 * start + N.getD n 0) (seen + N.getD n 0) (rbitsF d h m 1).2.2.1 (rbitsF d h m 1).2.2.2.1 (rbitsF d h m 1).2.2.2.2 hok.2.1 hok.1
        exact ⟨this.1, this.2.1, Nat.le_trans this.2.2 hok.2.2⟩
end Go.Proofs.Ytpldapjcojjicaa.B

namespace Go.Proofs.Ytpldapjcojjicaa.B
open Go.RowKit Go.Proofs.YtpldapjcojjicaaW.PrintWords Go.Proofs.YtpldapjcojjicaaW.PrintLast Go.Proofs.YtpldapjcojjicaaW.PrintMore
set_option linter.unusedVariables false
set_option linter.unusedSimpArgs false

/-- Where a table's slices lie. -/
structure Tab where
  A1 : Option Addr
  c1 : Nat
  A2 : Option Addr
  c2 : Nat
  A3 : Option Addr
  c3 : Nat
def tabCells (t : Tab) (n1 n2 : Nat) (n : List Int) (n3 : Nat) (most : Nat) : Array Value :=
  ([Value.slice t.A1 n1 t.c1, Value.slice t.A2 n2 t.c2] ++ (nums .i64 n ++ [Value.slice t.A3 n3 t.c3, Value.int .i64 (most : Int)]) : List Value).toArray
def natInts (S : List Nat) : List Int := S.map Int.ofNat
/-- A table at block T: lengths, codes, how many of each length, the symbols, the bits that are looked at. -/
structure IsT (W : World) (T : Nat) (t : Tab) (L C n : List Int) (S : List Nat) (most : Nat) : Prop where
  blk : W.heap[T]? = some (.cells (tabCells t L.length C.length n S.length most) 101 (0, 0))
  len : n.length = 16
  lens : Kd.C (Kd.int .i64) W t.A1 L.length L
  codes : Kd.C (Kd.int .i64) W t.A2 C.length C
  syms : Kd.C (Kd.int .i64) W t.A3 S.length (natInts S)
namespace IsT
variable {W w : World} {T : Nat} {t : Tab} {L C n : List Int} {S : List Nat} {most : Nat}
theorem below (h : IsT W T t L C n S most) (hb : Below W.heap.size W w) : IsT w T t L C n S most :=
  ⟨(hb.block T (blk_lt h.blk)).trans h.blk, h.len, Kd.C_below h.lens hb, Kd.C_below h.codes hb, Kd.C_below h.syms hb⟩
theorem cell0 (h : IsT W T t L C n S most) : W.cell? ⟨T, 0, none⟩ = some (.slice t.A1 L.length t.c1) := (blk_cell h.blk 0).trans rfl
theorem cell1 (h : IsT W T t L C n S most) : W.cell? ⟨T, 1, none⟩ = some (.slice t.A2 C.length t.c2) := (blk_cell h.blk 1).trans rfl
theorem cellN (h : IsT W T t L C n S most) (j : Nat) (hj : j < 16) : W.cell? ⟨T, 2 + j, none⟩ = some (.int .i64 (n.getD j 0)) := by
  rw [blk_cell h.blk (2 + j)]
  have hl : j < n.length := by rw [h.len]; exact hj
  unfold tabCells
  rw [List.getElem?_toArray, List.getElem?_append_right (by simp), show 2 + j - [Value.slice t.A1 L.length t.c1, .slice t.A2 C.length t.c2].length = j by simp, List.getElem?_append_left (by rw [nums_length]; exact hl)]
  simp [nums, List.getD_eq_getElem?_getD, List.getElem?_eq_getElem hl]
theorem cell18 (h : IsT W T t L C n S most) : W.cell? ⟨T, 18, none⟩ = some (.slice t.A3 S.length t.c3) := by
  rw [blk_cell h.blk 18]
  unfold tabCells
  rw [List.getElem?_toArray, List.getElem?_append_right (by simp), List.getElem?_append_right (by rw [nums_length, h.len]; simp)]
  simp [nums_length, h.len]
theorem cell19 (h : IsT W T t L C n S most) : W.cell? ⟨T, 19, none⟩ = some (.int .i64 (most : Int)) := by
  rw [blk_cell h.blk 19]
  unfold tabCells
  rw [List.getElem?_toArray, List.getElem?_append_right (by simp), List.getElem?_append_right (by rw [nums_length, h.len]; simp)]
  simp [nums_length, h.len]
theorem frozen (h : IsT W T t L C n S most) (j : Nat) : W.frozen? ⟨T, j, none⟩ = false := blk_frozen h.blk j
end IsT
theorem natInts_len (S : List Nat) : (natInts S).length = S.length := by simp [natInts]
theorem natInts_rd (S : List Nat) (i : Int) : rd (natInts S) i = ((S.getD i.toNat 0 : Nat) : Int) := by
  unfold rd natInts
  rw [List.getD_eq_getElem?_getD, List.getD_eq_getElem?_getD, List.getElem?_map]
  cases S[i.toNat]? <;> rfl
theorem or_bit (c b : Int) (h0 : 0 ≤ c) (h1 : c ≤ 20000) (b0 : 0 ≤ b) (b1 : b ≤ 1) : bits .or .i64 (c * 2) b = c * 2 + b := by
  obtain ⟨c, rfl⟩ : ∃ k : Nat, c = k := ⟨c.toNat, by omega⟩
  obtain ⟨b, rfl⟩ : ∃ k : Nat, b = k := ⟨b.toNat, by omega⟩
  have h := or_low b c 1 (by omega) (by omega)
  rw [bits_or_comm]
  have e : ((c * 2 ^ 1 : Nat) : Int) = (c : Int) * 2 := by omega
  rw [e] at h
  rw [h]
  omega
def NextPost (w : World) (g : Nat) (res : Int × Int × ByteArray × Nat × Nat) (e : Ending) (w' : World) : Prop :=
  e = .returned (.tuple #[.int .i64 res.1, .int .i64 res.2.1]) ∧ IsR w' g res.2.2.1 res.2.2.2.1 res.2.2.2.2 ∧ Fr (· = g) w w'

set_option maxHeartbeats 4000000 in
set_option maxRecDepth 100000 in
theorem next_calls (W w : World) (T g : Nat) (t : Tab) (L C n : List Int) (S : List Nat) (most : Nat) (d : ByteArray) (h m : Nat) (hT : IsT W T t L C n S most) (hb : Below W.heap.size W w) (hg : W.heap.size ≤ g)
    (hI : IsR w g d h m) (hm : m ≤ 7) (hh : h < 2 ^ m) (hd : d.size ≤ 140737488355328) (hmost : most ≤ 15) (hS : S.length ≤ 1000) (hfit : ∀ k, k < 15 → 0 ≤ n.getD (k + 1) 0 ∧ seenF n (k + 1) ≤ S.length ∧ 0 ≤ seenF n k) (res : Int × Int × ByteArray × Nat × Nat) (hres : nextP n S most 1 0 0 0 d h m = res) :
    Calls Try.prog 46 #[.pointer (some ⟨T, 0, none⟩), .pointer (some ⟨g, 0, none⟩)] w (NextPost w g res) := by
  have hTg : ¬ T = g := by have := blk_lt hT.blk; omega
  have hT := Aside0.mk hT
  have hfit := Aside0.mk hfit
  have hI := Aside0.mk hI
  have hh := Aside0.mk hh
  have hd := Aside0.mk hd
  have hres := Aside0.mk hres
  have hb := Aside0.mk hb
  go_enter Try.func46, Try.ntmps46
  go_wp2
  go_loopg [6, 7, 8, 9] most (fun gh v6 v7 v8 v9 wr => ∃ (j : Nat) (code start : Int) (d' : ByteArray) (h' m' : Nat), v9 = .int .i64 ((j : Int) + 1) ∧ v6 = .int .i64 code ∧ v7 = .int .i64 start ∧ v8 = .int .i64 (seenF n j) ∧ j ≤ most ∧ most - j ≤ gh ∧ 0 ≤ start ∧ start ≤ code ∧ code < ((2 ^ j : Nat) : Int) ∧ m' ≤ 7 ∧ Aside0 (IsR wr g d' h' m' ∧ h' < 2 ^ m' ∧ d'.size ≤ 140737488355328 ∧ Fr (· = g) w wr ∧ nextP n S (most - j) (j + 1) code start (seenF n j) d' h' m' = res))
  case atStart => exact ⟨0, 0, 0, d, h, m, rfl, rfl, rfl, rfl, Nat.zero_le _, by omega, by omega, by omega, by simp, hm, ⟨hI.out, hh.out, hd.out, Fr.refl _ _, hres.out⟩⟩
  case round =>
    obtain ⟨j, code, start, d', h', m', rfl, rfl, rfl, rfl, hj, hgh, hs0, hsc, hcp, hm', HR⟩ := hrel
    have hbw : Below W.heap.size W wr := hb.out.trans (HR.out.2.2.2.1.to_below (fun k hk _ e => by omega) hb.out.size)
    have hTw := Aside0.mk (hT.out.below hbw)
    replace hbw := Aside0.mk hbw
    have c19 := hTw.out.cell19
    have hsb := (hfit.out j)
    by_cases hlt : j < most
    · have e1 : most - j = (most - (j + 1)) + 1 := by omega
      have hres' := HR.out.2.2.2.2
      rw [e1] at hres'
      unfold nextP at hres'
      have hone := rbitsF_one d' h' m'
      have hok := rbitsF_ok d' h' m' 1 hm' HR.out.2.1
      have hcall := rbits_calls wr g d' h' m' 1 HR.out.1 hm' HR.out.2.1 HR.out.2.2.1
      obtain ⟨q, hq⟩ : ∃ q, rbitsF d' h' m' 1 = q := ⟨_, rfl⟩
      rw [hq] at hres' hone hok hcall
      clear hq
      obtain ⟨b, e, d2, h2, m2⟩ := q
      simp only at hres' hone hok hcall
      replace hok := Aside0.mk hok
      replace hcall := Aside0.mk hcall
      replace hres' := Aside0.mk hres'
      have p0 : decide ((j : Int) + 1 ≤ (most : Int)) = true := decide_eq_true (by omega)
      by_cases he : e = 0
      · subst he
        have hr2 := hres'.out
        rw [if_neg (by decide)] at hr2
        have cN := hTw.out.cellN (j + 1) (by omega)
        have hp2 : (2 : Nat) ^ (j + 1) = 2 * 2 ^ j := by rw [Nat.pow_succ]; omega
        have hp14 : (2 : Nat) ^ j ≤ 2 ^ 14 := two_pow_le (by omega)
        have hcb : code ≤ 20000 := by omega
        have hb0 := hone.1
        have hb1 := hone.2
        have hN0 := (hsb (by omega)).1
        have hN1 := (hsb (by omega)).2.1
        have hN2 := (hsb (by omega)).2.2
        have hN3 : n.getD (j + 1) 0 + seenF n j = seenF n (j + 1) := Int.add_comm _ _
        obtain ⟨y, hy⟩ : ∃ y, n.getD (j + 1) 0 = y := ⟨_, rfl⟩
        obtain ⟨sn, hsn⟩ : ∃ sn, seenF n j = sn := ⟨_, rfl⟩
        rw [hy] at cN hr2 hN0 hN3
        rw [hsn] at hr2 hN2 hN3
        simp only [hsn]
        replace hr2 := Aside0.mk hr2
        replace hy := Aside0.mk hy
        replace hsn := Aside0.mk hsn
        have hnew := Aside0.mk (fun (w2 : World) (f : Fr (· = g) wr w2) => hT.out.below (hbw.out.trans (f.to_below (B := W.heap.size) (fun k hk _ e => by omega) hbw.out.size)))
        clear hsb hone
        obtain ⟨Z, hZ⟩ : ∃ Z, code * 2 + b = Z := ⟨_, rfl⟩
        have hor := or_bit code b (by omega) (by omega) hb0 hb1
        rw [hZ] at hor
        have hr3 := hr2.out
        rw [show 2 * code + b = Z by omega, show 2 * start = start * 2 by omega] at hr3
        replace hr3 := Aside0.mk hr3
        have hZ0 : start * 2 ≤ Z := by omega
        have hZ1 : Z ≤ 50000 := by omega
        have hZ2 : Z < ((2 ^ (j + 1) : Nat) : Int) := by omega
        have hZ2 := Aside0.mk hZ2
        replace hZ := Aside0.mk hZ
        have hsn1 : sn + y ≤ (S.length : Int) := by omega
        clear hp2 hp14 hcp
        by_cases hk : Z - start * 2 < y
        · have hkb : decide (Z - start * 2 < y) = true := decide_eq_true hk
          have p1 := eq_true (show 0 ≤ sn + (Z - start * 2) by omega)
          have q1 := eq_true (show sn + (Z - start * 2) < (S.length : Int) by omega)
          have hr4 := hr3.out
          rw [if_pos hk] at hr4
          replace hr4 := Aside0.mk hr4
          have hidx := Aside0.mk (fun (w2 : World) (hT2 : IsT w2 T t L C n S most) => Kd.at_int hT2.syms (sn + (Z - start * 2)) (by omega) (by omega))
          go_wp2_with (go_at_call 21; refine (hcall.out).mono ?_; rintro e w2 ⟨rfl, hI2, hF2⟩; replace hI2 := Aside0.mk hI2; replace hF2 := Aside0.mk hF2; have hT2 := Aside0.mk (hnew.out _ hF2.out); have c18 := hT2.out.cell18; have cN2 := hT2.out.cellN (j + 1) (by omega); rw [hy.out] at cN2; obtain ⟨ad, eA, hx⟩ := hidx.out _ hT2.out; rw [eA] at c18; clear eA)
          go_ret2
          rw [← hr4.out]
          refine ⟨?_, hI2.out, HR.out.2.2.2.1.then_ hF2.out⟩
          rw [natInts_rd]
          rfl
        · have hkb : decide (Z - start * 2 < y) = false := decide_eq_false hk
          have hr4 := hr3.out
          rw [if_neg hk] at hr4
          replace hr4 := Aside0.mk hr4
          go_wp2_with (go_at_call 21; refine (hcall.out).mono ?_; rintro e w2 ⟨rfl, hI2, hF2⟩; replace hI2 := Aside0.mk hI2; replace hF2 := Aside0.mk hF2; have hT2 := Aside0.mk (hnew.out _ hF2.out); have cN2 := hT2.out.cellN (j + 1) (by omega); rw [hy.out] at cN2)
          go_roundg (most - (j + 1))
          case measure => omega
          case rel =>
            refine ⟨j + 1, Z, start * 2 + y, d2, h2, m2, by go_num, rfl, rfl, ?_, by omega, by omega, by omega, by omega, hZ2.out, hok.out.2.1, hI2.out, hok.out.1, Nat.le_trans hok.out.2.2 HR.out.2.2.1, HR.out.2.2.2.1.then_ hF2.out, ?_⟩
            · rw [← hsn.out, ← hy.out]; rfl
            · have := hr4.out
              rw [← hsn.out, ← hy.out] at this
              rw [← hy.out]
              exact this
      · have he' : (e != 0) = true := by simpa using he
        have hr2 := hres'.out
        rw [if_pos he] at hr2
        replace hr2 := Aside0.mk hr2
        clear he hsb
        go_wp2_with (go_at_call 21; refine (hcall.out).mono ?_; rintro e w2 ⟨rfl, hI2, hF2⟩; replace hI2 := Aside0.mk hI2; replace hF2 := Aside0.mk hF2)
        go_ret2
        rw [← hr2.out]
        exact ⟨rfl, hI2.out, HR.out.2.2.2.1.then_ hF2.out⟩
    · obtain rfl : j = most := by omega
      have p0 : decide ((j : Int) + 1 ≤ (j : Int)) = false := decide_eq_false (by omega)
      have hres' := HR.out.2.2.2.2
      rw [Nat.sub_self] at hres'
      have hr2 : ((0 : Int), (12 : Int), d', h', m') = res := hres'
      replace hr2 := Aside0.mk hr2
      clear hsb hres'
      go_wp2
      go_ret2
      rw [← hr2.out]
      exact ⟨rfl, HR.out.1, HR.out.2.2.2.1⟩
/-- The document's table at block T. -/
structure IsU (W : World) (T : Nat) (A1 : Option Addr) (c1 : Nat) (A2 : Option Addr) (c2 : Nat) (L C : List Int) : Prop where
  blk : W.heap[T]? = some (.cells #[.slice A1 L.length c1, .slice A2 C.length c2] 105 (0, 0))
  lens : Kd.C (Kd.int .i64) W A1 L.length L
  codes : Kd.C (Kd.int .i64) W A2 C.length C
  cap : L.length ≤ c1
namespace IsU
variable {W w : World} {T c1 c2 : Nat} {A1 A2 : Option Addr} {L C : List Int}
theorem below (h : IsU W T A1 c1 A2 c2 L C) (hb : Below W.heap.size W w) : IsU w T A1 c1 A2 c2 L C :=
  ⟨(hb.block T (blk_lt h.blk)).trans h.blk, Kd.C_below h.lens hb, Kd.C_below h.codes hb, h.cap⟩
theorem cell0 (h : IsU W T A1 c1 A2 c2 L C) : W.cell? ⟨T, 0, none⟩ = some (.slice A1 L.length c1) := (blk_cell h.blk 0).trans rfl
theorem cell1 (h : IsU W T A1 c1 A2 c2 L C) : W.cell? ⟨T, 1, none⟩ = some (.slice A2 C.length c2) := (blk_cell h.blk 1).trans rfl
end IsU
end Go.Proofs.Ytpldapjcojjicaa.B
