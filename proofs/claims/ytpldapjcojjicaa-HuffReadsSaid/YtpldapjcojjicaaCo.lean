/- Layer 2 (huff): Codes: its contract. -/
import Derived.Test.YtpldapjcojjicaaFi
import Derived.Test.YtpldapjcojjicaaSp
namespace Go.Proofs.Ytpldapjcojjicaa.B
open Go.RowKit Go.Proofs.YtpldapjcojjicaaW.PrintWords Go.Proofs.YtpldapjcojjicaaW.PrintLast Go.Proofs.YtpldapjcojjicaaW.PrintMore
set_option linter.unusedVariables false
set_option linter.unusedSimpArgs false

def codesGo : List Int → Nat → List Int → List Int → List Int
  | [], _, _, out => out
  | x :: r, i, nx, out => if 0 < x then codesGo r (i + 1) (nx.set x.toNat (nx.getD x.toNat 0 + 1)) (out.set i (nx.getD x.toNat 0)) else codesGo r (i + 1) nx out
theorem codesGo_cons (x : Int) (r : List Int) (i : Nat) (nx out : List Int) : codesGo (x :: r) i nx out = if 0 < x then codesGo r (i + 1) (nx.set x.toNat (nx.getD x.toNat 0 + 1)) (out.set i (nx.getD x.toNat 0)) else codesGo r (i + 1) nx out := rfl
def codesL (l : List Int) : List Int := codesGo l 0 (firstF (tally l)) (List.replicate l.length 0)
def codesF (l : List Int) : List Int × Int := if checkF l = 0 then (codesL l, 0) else ([], checkF l)
theorem checkF_ok {l : List Int} (h : checkF l = 0) : l.length ≤ 288 ∧ l.any badLen = false := by
  unfold checkF at h
  split at h
  · cases h
  · rename_i hn
    constructor
    · omega
    · cases hb : l.any badLen
      · rfl
      · exact absurd (.inr hb) hn
theorem info3c : (Try.prog.info? 3).map (fun i => (i.zero, i.size, i.bytes)) = some (some (.int .i64 0), 1, 8) := by kernel_rfl
/-- What is told of Codes' return. -/
def CodPost (W : World) (r : List Int) (x : Int) (e : Ending) (W' : World) : Prop := ∃ v, e = .returned (.tuple #[v, .int .i64 x]) ∧ W'.ownsRow W.heap.size 3 1 v r.length (nums .i64 r) ∧ Below W.heap.size W W'
theorem codesGo_len : ∀ (l : List Int) (i : Nat) (nx out : List Int), (codesGo l i nx out).length = out.length
  | [], _, _, _ => rfl
  | x :: r, i, nx, out => by
    rw [codesGo_cons]
    split
    · rw [codesGo_len r, List.length_set]
    · exact codesGo_len r _ _ _
theorem IsL.owns2 {W : World} {base g : Nat} {L : List Int} (h : IsL W g L) (hb : base ≤ g) (hL : L.length ≤ 1000) : W.ownsRow base 3 1 (.slice (some ⟨g, 0, none⟩) L.length L.length) L.length (nums .i64 L) := by
  refine ⟨by simp [nums], .inr ⟨g, L.length, _, rfl, hb, h, Nat.le_refl _, by unfold maxLen; omega, by simp [nums], ?_⟩⟩
  rw [Nat.mul_one, List.take_of_length_le (by simp [nums])]

set_option maxHeartbeats 4000000 in
set_option maxRecDepth 100000 in
theorem codes_calls (W : World) (A : Option Addr) (c : Nat) (l : List Int) (hC : Kd.C (Kd.int .i64) W A l.length l) (hl : l.length ≤ 100000000000000) (r : List Int) (x : Int) (hres : codesF l = (r, x)) :
    Calls Try.prog 37 #[.slice A l.length c] W (CodPost W r x) := by
  have hchk := Aside0.mk (check_calls W A c l hC hl)
  unfold codesF at hres
  by_cases h0 : checkF l = 0
  · rw [if_pos h0] at hres
    obtain ⟨rfl, rfl⟩ : codesL l = r ∧ (0 : Int) = x := ⟨congrArg Prod.fst hres, congrArg Prod.snd hres⟩
    obtain ⟨h288, hbad⟩ := checkF_ok h0
    rw [h0] at hchk
    clear hres h0
    have hcnt := fun W' hC' => counted_calls W' A c l hC' hl hbad
    have hfst := fun W' => first_calls W' (tally l) (tally_len l) (fun j => by have := tally_bd l j; omega)
    obtain ⟨a0, a1, a2, a3, a4, a5, a6, a7, a8, a9, a10, a11, a12, a13, a14, a15, ho⟩ := IsN.shape (show (firstF (tally l)).length = 16 from firstK_len _ 14)
    have hag : aggN (firstF (tally l)) = .agg #[.int .i64 a0, .int .i64 a1, .int .i64 a2, .int .i64 a3, .int .i64 a4, .int .i64 a5, .int .i64 a6, .int .i64 a7, .int .i64 a8, .int .i64 a9, .int .i64 a10, .int .i64 a11, .int .i64 a12, .int .i64 a13, .int .i64 a14, .int .i64 a15] := by rw [ho]; rfl
    rw [hag] at hfst
    have hnx0 : (nums .i64 (firstF (tally l))).toArray = #[.int .i64 a0, .int .i64 a1, .int .i64 a2, .int .i64 a3, .int .i64 a4, .int .i64 a5, .int .i64 a6, .int .i64 a7, .int .i64 a8, .int .i64 a9, .int .i64 a10, .int .i64 a11, .int .i64 a12, .int .i64 a13, .int .i64 a14, .int .i64 a15] := by rw [ho]; rfl
    have hbd0 : ∀ j, 0 ≤ (firstF (tally l)).getD j 0 ∧ (firstF (tally l)).getD j 0 ≤ 20000000 ∨ 16 ≤ j := fun j => by
      by_cases hj : j < 16
      · have hb := firstK_bd (tally l) (fun j => by have := tally_bd l j; omega) 14 j
        have hp : (2 : Nat) ^ j ≤ 2 ^ 15 := two_pow_le (by omega)
        left
        unfold firstF
        omega
      · exact .inr (by omega)
    have hmk := print_make 51 3 .i64 8 Try.underlying51 info3c (by decide) l.length (by omega)
    have hbx : ∀ x ∈ l, 0 ≤ x ∧ x ≤ 15 := fun x hx => by
      have := List.any_eq_false.1 hbad x hx
      unfold badLen at this
      simp at this
      omega
    have hcnt := Aside0.mk hcnt
    have hfst := Aside0.mk hfst
    have hag := Aside0.mk hag
    replace hnx0 := Aside0.mk hnx0
    replace hbd0 := Aside0.mk hbd0
    replace hbx := Aside0.mk hbx
    replace ho := Aside0.mk ho
    replace hC := Aside0.mk hC
    clear hbad
    go_enter Try.func37, Try.ntmps37
    go_wp2_with (first | (go_at_call 34; refine hchk.out.mono ?_; rintro e w1 ⟨rfl, f1⟩; replace f1 := Aside0.mk f1) | (go_at_call 50; refine (hcnt.out w1 (Kd.C_below hC.out (f1.out.to_below (fun _ _ _ e => e) (Nat.le_refl _)))).mono ?_; rintro e w2 ⟨rfl, f2⟩; replace f2 := Aside0.mk f2) | (go_at_call 52; refine (hfst.out w2).mono ?_; rintro e w3 ⟨rfl, f3⟩; replace f3 := Aside0.mk f3))
    obtain ⟨NB, hNB⟩ : ∃ NB, w3.heap.size = NB := ⟨_, rfl⟩
    obtain ⟨w4, hw4⟩ : ∃ w4, (w3.alloc (.cells #[.int .i64 a0, .int .i64 a1, .int .i64 a2, .int .i64 a3, .int .i64 a4, .int .i64 a5, .int .i64 a6, .int .i64 a7, .int .i64 a8, .int .i64 a9, .int .i64 a10, .int .i64 a11, .int .i64 a12, .int .i64 a13, .int .i64 a14, .int .i64 a15] 80)).alloc (.cells (madeCells #[.int .i64 0] l.length) 3) = w4 := ⟨_, rfl⟩
    have hs1 : (w3.alloc (.cells #[.int .i64 a0, .int .i64 a1, .int .i64 a2, .int .i64 a3, .int .i64 a4, .int .i64 a5, .int .i64 a6, .int .i64 a7, .int .i64 a8, .int .i64 a9, .int .i64 a10, .int .i64 a11, .int .i64 a12, .int .i64 a13, .int .i64 a14, .int .i64 a15] 80)).heap.size = NB + 1 := by simp [hNB]
    have hN4 : IsN w4 NB (firstF (tally l)) := by
      refine ⟨?_, by rw [ho.out]; rfl⟩
      rw [← hw4, heap_alloc_old _ _ (by omega), hnx0.out, ← hNB]
      exact heap_alloc_new _ _
    have hL4 : IsL w4 (NB + 1) (List.replicate l.length 0) := by
      unfold IsL
      rw [← hw4, ← hs1, heap_alloc_new]
      congr 2
      apply Array.toList_inj.1
      rw [toList_madeCells_one]
      simp [nums]
    have hF4 : Fr (fun _ => False) W w4 := by rw [← hw4]; exact (((f1.out.then_ f2.out).then_ f3.out).alloc _).alloc _
    have hNBW : W.heap.size ≤ NB := by rw [← hNB]; exact ((f1.out.then_ f2.out).then_ f3.out).size
    simp only [hs1, hNB, hw4]
    replace hN4 := Aside0.mk hN4
    replace hL4 := Aside0.mk hL4
    replace hF4 := Aside0.mk hF4
    clear hw4 hs1 hNB f1 f2 f3 hnx0 ho hag hcnt hfst hchk hmk
    go_loopg [22] l.length (fun gh v22 wr => ∃ (i : Nat) (nx out : List Int), v22 = .int .i64 (i : Int) ∧ i ≤ l.length ∧ l.length - i ≤ gh ∧ Aside0 (IsN wr NB nx ∧ IsL wr (NB + 1) out ∧ out.length = l.length ∧ Fr (fun _ => False) W wr ∧ codesGo (l.drop i) i nx out = codesL l ∧ ∀ j, j < 16 → 0 ≤ nx.getD j 0 ∧ nx.getD j 0 ≤ 20000000 + (i : Int)))
    case atStart => exact ⟨0, _, _, rfl, Nat.zero_le _, by omega, ⟨hN4.out, hL4.out, by simp, hF4.out, rfl, fun j hj => by have := hbd0.out j; omega⟩⟩
    case round =>
      clear hN4 hL4 hF4 hbd0
      obtain ⟨i, nx, out, rfl, hi, hg, HR⟩ := hrel
      by_cases hc : i < l.length
      · have hcb : decide ((i : Int) < (l.length : Int)) = true := decide_eq_true (by omega)
        have hcb' : decide (i < l.length) = true := decide_eq_true hc
        obtain ⟨ad, eA, hx⟩ := Kd.at_int hC.out (i : Int) (by omega) (by omega)
        cases eA
        replace hx := (HR.out.2.2.2.1.to_below (B := W.heap.size) (fun _ _ _ e => e) (Nat.le_refl _)).cell (World.block_lt_of_cell? W _ hx) |>.trans hx
        rw [Int.toNat_natCast] at hx
        have p0 := eq_true (show (0 : Int) ≤ (i : Int) by omega)
        have q0 := eq_true (show (i : Int) < (l.length : Int) by omega)
        obtain ⟨y, hxx⟩ : ∃ y, rd l (i : Int) = y := ⟨_, rfl⟩
        rw [hxx] at hx
        have hle : l[i] = y := by
          rw [← hxx]
          unfold rd
          rw [Int.toNat_natCast, List.getD_eq_getElem?_getD, List.getElem?_eq_getElem hc]
          rfl
        have hyb := hbx.out y (by rw [← hle]; exact List.getElem_mem _)
        have hT := HR.out.2.2.2.2.1
        rw [List.drop_eq_getElem_cons hc, hle, codesGo_cons] at hT
        clear hxx hle
        by_cases h0 : 0 < y
        · have h0b : decide (0 < y) = true := decide_eq_true h0
          rw [if_pos h0] at hT
          obtain ⟨z, hz⟩ : ∃ z, nx.getD y.toNat 0 = z := ⟨_, rfl⟩
          have hzb := HR.out.2.2.2.2.2 y.toNat (by omega)
          rw [hz] at hT hzb
          replace hT := Aside0.mk hT
          have c1 : wr.cell? ⟨NB, y.toNat, none⟩ = some (.int .i64 z) := by rw [← hz]; exact HR.out.1.cell y.toNat (by omega)
          have f1 := blk_frozen HR.out.1.1 y.toNat
          have c2 := HR.out.2.1.cell i (by rw [HR.out.2.2.1]; exact hc)
          have f2 := blk_frozen HR.out.2.1 i
          have zb0 : 0 ≤ z := hzb.1
          have zb1 : z ≤ 30000000 := by omega
          have yb0 : 0 ≤ y := hyb.1
          have yb1 : y ≤ 15 := hyb.2
          have p1 := eq_true yb0
          have q1 := eq_true (show y < 16 by omega)
          have c3 : (wr.setCell ⟨NB + 1, i, none⟩ (.int .i64 z)).cell? ⟨NB, y.toNat, none⟩ = some (.int .i64 z) := (World.cell?_of_block (Below.heap_setCell wr ⟨NB + 1, i, none⟩ (.int .i64 z) NB (by show NB ≠ NB + 1; omega))).trans c1
          have hend : Aside0 (IsN ((wr.setCell ⟨NB + 1, i, none⟩ (.int .i64 z)).setCell ⟨NB, y.toNat, none⟩ (.int .i64 (z + 1))) NB (nx.set y.toNat (z + 1)) ∧ IsL ((wr.setCell ⟨NB + 1, i, none⟩ (.int .i64 z)).setCell ⟨NB, y.toNat, none⟩ (.int .i64 (z + 1))) (NB + 1) (out.set i z) ∧ Fr (fun _ => False) W ((wr.setCell ⟨NB + 1, i, none⟩ (.int .i64 z)).setCell ⟨NB, y.toNat, none⟩ (.int .i64 (z + 1)))) :=
            ⟨(show IsN (wr.setCell ⟨NB + 1, i, none⟩ (.int .i64 z)) NB nx from ⟨(Below.heap_setCell wr ⟨NB + 1, i, none⟩ (.int .i64 z) NB (by show NB ≠ NB + 1; omega)).trans HR.out.1.1, HR.out.1.2⟩).set y.toNat (z + 1),
             (Below.heap_setCell _ ⟨NB, y.toNat, none⟩ (.int .i64 (z + 1)) (NB + 1) (by show NB + 1 ≠ NB; omega)).trans (HR.out.2.1.set i z),
             (HR.out.2.2.2.1.set_ _ _ (fun h => by have : NB + 1 < W.heap.size := h; omega)).set_ _ _ (fun h => by have : NB < W.heap.size := h; omega)⟩
          replace hz := Aside0.mk hz
          clear hzb hyb
          go_wp2
          go_roundg (l.length - (i + 1))
          case measure => omega
          case rel =>
            refine ⟨i + 1, nx.set y.toNat (z + 1), out.set i z, by go_num, by omega, by omega, ⟨hend.out.1, hend.out.2.1, by rw [List.length_set]; exact HR.out.2.2.1, hend.out.2.2, hT.out, fun j hj => ?_⟩⟩
            have := HR.out.2.2.2.2.2 j hj
            have h2 := HR.out.2.2.2.2.2 y.toNat (by omega)
            rw [hz.out] at h2
            rw [set_getD]
            split <;> omega
        · have h0b : decide (0 < y) = false := decide_eq_false h0
          rw [if_neg h0] at hT
          replace hT := Aside0.mk hT
          go_wp2
          go_roundg (l.length - (i + 1))
          case measure => omega
          case rel => exact ⟨i + 1, nx, out, by go_num, by omega, by omega, ⟨HR.out.1, HR.out.2.1, HR.out.2.2.1, HR.out.2.2.2.1, hT.out, fun j hj => by have := HR.out.2.2.2.2.2 j hj; omega⟩⟩
      · have hcb : decide ((i : Int) < (l.length : Int)) = false := decide_eq_false (by omega)
        have hcb' : decide (i < l.length) = false := decide_eq_false hc
        have hT := HR.out.2.2.2.2.1
        rw [List.drop_eq_nil_of_le (by omega)] at hT
        replace hT := Aside0.mk hT
        go_wp2
        go_ret2
        have hL := HR.out.2.1.owns2 (base := W.heap.size) (by omega) (by rw [HR.out.2.2.1]; omega)
        rw [HR.out.2.2.1] at hL
        refine ⟨_, rfl, ?_, HR.out.2.2.2.1.to_below (fun _ _ _ e => e) (Nat.le_refl _)⟩
        rw [← hT.out, show codesGo [] i nx out = out from rfl, HR.out.2.2.1]
        exact hL
  · rw [if_neg h0] at hres
    obtain ⟨rfl, rfl⟩ : [] = r ∧ checkF l = x := ⟨congrArg Prod.fst hres, congrArg Prod.snd hres⟩
    clear hres
    have hne : (checkF l != 0) = true := by simpa using h0
    generalize checkF l = y at *
    clear h0
    go_enter Try.func37, Try.ntmps37
    go_wp2_with (go_at_call 34; refine hchk.out.mono ?_; rintro e w1 ⟨rfl, f1⟩; replace f1 := Aside0.mk f1)
    go_ret2
    exact ⟨_, rfl, World.ownsRow_nil _ _ _ _, f1.out.to_below (fun _ _ _ e => e) (Nat.le_refl _)⟩
end Go.Proofs.Ytpldapjcojjicaa.B
