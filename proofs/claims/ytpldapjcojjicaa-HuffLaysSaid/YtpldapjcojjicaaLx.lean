/- Layer 2 (huff): the document's table, its Make and its Lay: their contracts. Joined of texts: Layer 2 (huff): the table's Lay, the program's and the document's: their contracts. -/
import Derived.Test.YtpldapjcojjicaaNx
import Derived.Test.YtpldapjcojjicaaBw
namespace Go.Proofs.Ytpldapjcojjicaa.B
open Go.RowKit Go.Proofs.YtpldapjcojjicaaW.PrintWords Go.Proofs.YtpldapjcojjicaaW.PrintLast Go.Proofs.YtpldapjcojjicaaW.PrintMore
set_option linter.unusedVariables false
set_option linter.unusedSimpArgs false

/-- The i lowest bits of a code, the highest of them first. -/
def layGo (c : Int) : Nat → List Int × Nat × Nat → List Int × Nat × Nat
  | 0, s => s
  | i + 1, s => layGo c i (wbitsF s.1 s.2.1 s.2.2 (c / 2 ^ i) 1)
/-- What Lay lays. -/
def layF (L C : List Int) (x : Int) (s : List Int × Nat × Nat) : Int × List Int × Nat × Nat :=
  if x < 0 ∨ (L.length : Int) ≤ x ∨ rd L x = 0 then (1, s) else (0, layGo (rd C x) (rd L x).toNat s)
theorem layGo_ok (c : Int) : ∀ (i : Nat) (s : List Int × Nat × Nat), s.2.1 < 2 ^ s.2.2 → s.2.2 ≤ 7 → (layGo c i s).2.1 < 2 ^ (layGo c i s).2.2 ∧ (layGo c i s).2.2 ≤ 7 ∧ (layGo c i s).1.length ≤ s.1.length + 4 * i
  | 0, s, h1, h2 => ⟨h1, h2, Nat.le_refl _⟩
  | i + 1, s, h1, h2 => by
    have hok := wbitsF_ok s.1 s.2.1 s.2.2 (c / 2 ^ i) 1 h1 h2
    have ih := layGo_ok c i (wbitsF s.1 s.2.1 s.2.2 (c / 2 ^ i) 1) hok.1 hok.2.1
    refine ⟨ih.1, ih.2.1, Nat.le_trans ih.2.2 ?_⟩
    have := hok.2.2
    omega
theorem rd_good {l : List Int} {p : Int → Prop} (hg : ∀ x ∈ l, p x) (x : Int) (h0 : 0 ≤ x) (h1 : x < (l.length : Int)) : p (rd l x) := by
  unfold rd
  rw [List.getD_eq_getElem?_getD, List.getElem?_eq_getElem (by omega)]
  exact hg _ (List.getElem_mem _)
theorem layF_ok (L C : List Int) (hL : ∀ x ∈ L, 0 ≤ x ∧ x ≤ 15) (x : Int) (s : List Int × Nat × Nat) (h1 : s.2.1 < 2 ^ s.2.2) (h2 : s.2.2 ≤ 7) : (layF L C x s).2.2.1 < 2 ^ (layF L C x s).2.2.2 ∧ (layF L C x s).2.2.2 ≤ 7 ∧ (layF L C x s).2.1.length ≤ s.1.length + 60 := by
  unfold layF
  split
  · exact ⟨h1, h2, Nat.le_add_right _ _⟩
  · rename_i hc
    have hb := rd_good hL x (by omega) (by omega)
    have := layGo_ok (rd C x) (rd L x).toNat s h1 h2
    refine ⟨this.1, this.2.1, Nat.le_trans this.2.2 ?_⟩
    omega
/-- What is told of Lay's return. -/
def LayPost (W : World) (u : Value) (zs : List Int) (h2 n2 : Nat) (r : Int × List Int × Nat × Nat) (e : Ending) (w' : World) : Prop :=
  e = .returned (.int .i64 r.1) ∧ ∃ v', BW W w' v' u r.2.1 r.2.2.1 r.2.2.2 zs h2 n2

set_option maxHeartbeats 4000000 in
set_option maxRecDepth 100000 in
theorem lay_calls {W w : World} {T : Nat} {t : Tab} {L C N : List Int} {S : List Nat} {most : Nat} (hT : IsT W T t L C N S most) (hL : ∀ x ∈ L, 0 ≤ x ∧ x ≤ 15) (hLC : C.length = L.length) (h288 : L.length ≤ 288) (hC : ∀ x ∈ C, 0 ≤ x ∧ x ≤ 100000000)
    {v u : Value} {ys zs : List Int} {h n h2 n2 : Nat} (s : BW W w v u ys h n zs h2 n2) (hn : n ≤ 7) (hh : h < 2 ^ n) (hx : ys.length ≤ 900000000000) (x : Int) :
    Calls Try.prog 44 #[.pointer (some ⟨T, 0, none⟩), .pointer (some ⟨W.heap.size, 0, none⟩), .int .i64 x] w (LayPost W u zs h2 n2 (layF L C x (ys, h, n))) := by
  have hTw := hT.below s.bel
  have c0 := hTw.cell0
  have hs := Aside0.mk s
  have hhA := Aside0.mk hh
  obtain ⟨r, hr⟩ : ∃ r, layF L C x (ys, h, n) = r := ⟨_, rfl⟩
  rw [hr]
  unfold layF at hr
  clear hh s
  by_cases h0 : x < 0
  · have k0 : decide (x < 0) = true := decide_eq_true h0
    rw [if_pos (.inl h0)] at hr
    replace hr := Aside0.mk hr
    replace hTw := Aside0.mk hTw
    replace hT := Aside0.mk hT
    go_enter Try.func44, Try.ntmps44
    go_wp2
    go_ret
    rw [← hr.out]
    exact ⟨rfl, v, hs.out⟩
  · have k0 : decide (x < 0) = false := decide_eq_false h0
    by_cases h1 : (L.length : Int) ≤ x
    · have k1 : decide ((L.length : Int) ≤ x) = true := decide_eq_true h1
      rw [if_pos (.inr (.inl h1))] at hr
      replace hr := Aside0.mk hr
      replace hTw := Aside0.mk hTw
      replace hT := Aside0.mk hT
      go_enter Try.func44, Try.ntmps44
      go_wp2
      go_ret
      rw [← hr.out]
      exact ⟨rfl, v, hs.out⟩
    · have k1 : decide ((L.length : Int) ≤ x) = false := decide_eq_false h1
      obtain ⟨ad, eA, hxx⟩ := Kd.at_int hTw.lens x (by omega) (by omega)
      have hyb := rd_good hL x (by omega) (by omega)
      obtain ⟨y, hy⟩ : ∃ y, rd L x = y := ⟨_, rfl⟩
      rw [hy] at hxx hyb hr
      rw [eA] at c0
      have p0 := eq_true (show (0 : Int) ≤ x by omega)
      have q0 := eq_true (show x < (L.length : Int) by omega)
      have y0 : 0 ≤ y := hyb.1
      have y15 : y ≤ 15 := hyb.2
      by_cases h3 : y = 0
      · subst h3
        rw [if_pos (.inr (.inr rfl))] at hr
        replace hr := Aside0.mk hr
        replace hTw := Aside0.mk hTw
        replace hT := Aside0.mk hT
        clear hy hyb eA
        go_enter Try.func44, Try.ntmps44
        go_wp2
        go_ret
        rw [← hr.out]
        exact ⟨rfl, v, hs.out⟩
      · have h3b : (y == 0) = false := by simpa using h3
        rw [if_neg (by rintro (q | q | q) <;> omega)] at hr
        replace hr := Aside0.mk hr
        replace hTw := Aside0.mk hTw
        replace hT := Aside0.mk hT
        clear hyb eA
        go_enter Try.func44, Try.ntmps44
        go_wp2
        go_loopg [7] 16 (fun gh v7 wr => ∃ (j : Int) (v1 : Value) (y1 : List Int) (h1 n1 : Nat), v7 = .int .i64 j ∧ -1 ≤ j ∧ j ≤ 14 ∧ (j + 1).toNat ≤ gh ∧ n1 ≤ 7 ∧ (y1.length : Int) + 4 * j ≤ 900000000100 ∧ Aside0 (BW W wr v1 u y1 h1 n1 zs h2 n2 ∧ h1 < 2 ^ n1 ∧ (0, layGo (rd C x) (j + 1).toNat (y1, h1, n1)) = r))
        case atStart => exact ⟨y - 1, v, ys, h, n, rfl, by omega, by omega, by omega, hn, by omega, ⟨hs.out, hhA.out, by rw [← hr.out, show y - 1 + 1 = y by omega]⟩⟩
        case round =>
          obtain ⟨j, v1, y1, h1', n1, rfl, hj0, hj1, hgh, hn1, hyl, HR⟩ := hrel
          by_cases hj : 0 ≤ j
          · have kj : decide (0 ≤ j) = true := decide_eq_true hj
            obtain ⟨i, rfl⟩ : ∃ i : Nat, j = (i : Int) := ⟨j.toNat, by omega⟩
            have hTr := hT.out.below HR.out.1.bel
            have c1 := hTr.cell1
            obtain ⟨ad2, eA2, hcc⟩ := Kd.at_int hTr.codes x (by omega) (by omega)
            have hcb := rd_good hC x (by omega) (by omega)
            have hq := HR.out.2.2
            obtain ⟨c, hc⟩ : ∃ c, rd C x = c := ⟨_, rfl⟩
            rw [hc] at hcc hcb hq
            rw [eA2] at c1
            rw [show ((i : Int) + 1).toNat = i + 1 by omega] at hq
            replace hTr := Aside0.mk hTr
            have cb0 : 0 ≤ c := hcb.1
            have cb1 : c ≤ 100000000 := hcb.2
            have hcall := bw_bits HR.out.1 hn1 HR.out.2.1 (by omega) (c / 2 ^ i) 1
            have hok := wbitsF_ok y1 h1' n1 (c / 2 ^ i) 1 HR.out.2.1 hn1
            have hq2 : (0, layGo c i (wbitsF y1 h1' n1 (c / 2 ^ i) 1)) = r := hq
            generalize wbitsF y1 h1' n1 (c / 2 ^ i) 1 = st at hcall hok hq2
            replace hcall := Aside0.mk hcall
            replace hok := Aside0.mk hok
            replace hq2 := Aside0.mk hq2
            clear hq eA2 hcb
            go_wp2_with (go_at_call 29; refine (hcall.out).mono ?_; rintro e w2 ⟨rfl, v2, s2⟩; replace s2 := Aside0.mk s2)
            go_roundg i
            case measure => omega
            case rel =>
              have hl := hok.out.2.2
              exact ⟨(i : Int) - 1, v2, st.1, st.2.1, st.2.2, rfl, by omega, by omega, by omega, hok.out.2.1, by omega, ⟨s2.out, hok.out.1, by rw [show (i : Int) - 1 + 1 = (i : Int) by omega, Int.toNat_natCast, hc]; exact hq2.out⟩⟩
          · have kj : decide (0 ≤ j) = false := decide_eq_false hj
            obtain rfl : j = -1 := by omega
            have hq := HR.out.2.2
            have hq2 : ((0 : Int), y1, h1', n1) = r := hq
            replace hq2 := Aside0.mk hq2
            clear hq
            go_wp2
            go_ret
            rw [← hq2.out]
            exact ⟨rfl, v1, HR.out.1⟩
end Go.Proofs.Ytpldapjcojjicaa.B

namespace Go.Proofs.Ytpldapjcojjicaa.B
open Go.RowKit Go.Proofs.YtpldapjcojjicaaW.PrintWords Go.Proofs.YtpldapjcojjicaaW.PrintLast Go.Proofs.YtpldapjcojjicaaW.PrintMore
set_option linter.unusedVariables false
set_option linter.unusedSimpArgs false

/-- What is told of the document's Lay's return. -/
def LayPostV (W : World) (v : Value) (ys : List Int) (h n : Nat) (r : Int × List Int × Nat × Nat) (e : Ending) (w' : World) : Prop :=
  e = .returned (.int .i64 r.1) ∧ ∃ u', BW W w' v u' ys h n r.2.1 r.2.2.1 r.2.2.2

set_option maxHeartbeats 4000000 in
set_option maxRecDepth 100000 in
theorem vlay_calls {W w : World} {T c1 c2 : Nat} {A1 A2 : Option Addr} {L C : List Int} (hT : IsU W T A1 c1 A2 c2 L C) (hL : ∀ x ∈ L, 0 ≤ x ∧ x ≤ 15) (hLC : C.length = L.length) (h288 : L.length ≤ 288) (hC : ∀ x ∈ C, 0 ≤ x ∧ x ≤ 100000000)
    {v u : Value} {ys zs : List Int} {h n h2 n2 : Nat} (s : BW W w v u ys h n zs h2 n2) (hn : n2 ≤ 7) (hh : h2 < 2 ^ n2) (hx : zs.length ≤ 900000000000) (x : Int) :
    Calls Try.prog 45 #[.pointer (some ⟨T, 0, none⟩), .pointer (some ⟨W.heap.size + 1, 0, none⟩), .int .i64 x] w (LayPostV W v ys h n (layF L C x (zs, h2, n2))) := by
  have hTw := hT.below s.bel
  have c0 := hTw.cell0
  have hs := Aside0.mk s
  have hhA := Aside0.mk hh
  obtain ⟨r, hr⟩ : ∃ r, layF L C x (zs, h2, n2) = r := ⟨_, rfl⟩
  rw [hr]
  unfold layF at hr
  clear hh s
  by_cases h0 : x < 0
  · have k0 : decide (x < 0) = true := decide_eq_true h0
    rw [if_pos (.inl h0)] at hr
    replace hr := Aside0.mk hr
    replace hTw := Aside0.mk hTw
    replace hT := Aside0.mk hT
    go_enter Try.func45, Try.ntmps45
    go_wp2
    go_ret
    rw [← hr.out]
    exact ⟨rfl, u, hs.out⟩
  · have k0 : decide (x < 0) = false := decide_eq_false h0
    by_cases h1 : (L.length : Int) ≤ x
    · have k1 : decide ((L.length : Int) ≤ x) = true := decide_eq_true h1
      rw [if_pos (.inr (.inl h1))] at hr
      replace hr := Aside0.mk hr
      replace hTw := Aside0.mk hTw
      replace hT := Aside0.mk hT
      go_enter Try.func45, Try.ntmps45
      go_wp2
      go_ret
      rw [← hr.out]
      exact ⟨rfl, u, hs.out⟩
    · have k1 : decide ((L.length : Int) ≤ x) = false := decide_eq_false h1
      obtain ⟨ad, eA, hxx⟩ := Kd.at_int hTw.lens x (by omega) (by omega)
      have hyb := rd_good hL x (by omega) (by omega)
      obtain ⟨y, hy⟩ : ∃ y, rd L x = y := ⟨_, rfl⟩
      rw [hy] at hxx hyb hr
      rw [eA] at c0
      have p0 := eq_true (show (0 : Int) ≤ x by omega)
      have q0 := eq_true (show x < (L.length : Int) by omega)
      have y0 : 0 ≤ y := hyb.1
      have y15 : y ≤ 15 := hyb.2
      by_cases h3 : y = 0
      · subst h3
        rw [if_pos (.inr (.inr rfl))] at hr
        replace hr := Aside0.mk hr
        replace hTw := Aside0.mk hTw
        replace hT := Aside0.mk hT
        clear hy hyb eA
        go_enter Try.func45, Try.ntmps45
        go_wp2
        go_ret
        rw [← hr.out]
        exact ⟨rfl, u, hs.out⟩
      · have h3b : (y == 0) = false := by simpa using h3
        rw [if_neg (by rintro (q | q | q) <;> omega)] at hr
        replace hr := Aside0.mk hr
        replace hTw := Aside0.mk hTw
        replace hT := Aside0.mk hT
        clear hyb eA
        go_enter Try.func45, Try.ntmps45
        go_wp2
        go_loopg [7] 16 (fun gh v7 wr => ∃ (j : Int) (v1 : Value) (y1 : List Int) (h1 n1 : Nat), v7 = .int .i64 j ∧ -1 ≤ j ∧ j ≤ 14 ∧ (j + 1).toNat ≤ gh ∧ n1 ≤ 7 ∧ (y1.length : Int) + 4 * j ≤ 900000000100 ∧ Aside0 (BW W wr v v1 ys h n y1 h1 n1 ∧ h1 < 2 ^ n1 ∧ (0, layGo (rd C x) (j + 1).toNat (y1, h1, n1)) = r))
        case atStart => exact ⟨y - 1, u, zs, h2, n2, rfl, by omega, by omega, by omega, hn, by omega, ⟨hs.out, hhA.out, by rw [← hr.out, show y - 1 + 1 = y by omega]⟩⟩
        case round =>
          obtain ⟨j, v1, y1, h1', n1, rfl, hj0, hj1, hgh, hn1, hyl, HR⟩ := hrel
          by_cases hj : 0 ≤ j
          · have kj : decide (0 ≤ j) = true := decide_eq_true hj
            obtain ⟨i, rfl⟩ : ∃ i : Nat, j = (i : Int) := ⟨j.toNat, by omega⟩
            have hTr := hT.out.below HR.out.1.bel
            have c1 := hTr.cell1
            obtain ⟨ad2, eA2, hcc⟩ := Kd.at_int hTr.codes x (by omega) (by omega)
            have hcb := rd_good hC x (by omega) (by omega)
            have hq := HR.out.2.2
            obtain ⟨c, hc⟩ : ∃ c, rd C x = c := ⟨_, rfl⟩
            rw [hc] at hcc hcb hq
            rw [eA2] at c1
            rw [show ((i : Int) + 1).toNat = i + 1 by omega] at hq
            replace hTr := Aside0.mk hTr
            have cb0 : 0 ≤ c := hcb.1
            have cb1 : c ≤ 100000000 := hcb.2
            have hcall := bv_bits HR.out.1 hn1 HR.out.2.1 (by omega) (c / 2 ^ i) 1
            have hok := wbitsF_ok y1 h1' n1 (c / 2 ^ i) 1 HR.out.2.1 hn1
            have hq2 : (0, layGo c i (wbitsF y1 h1' n1 (c / 2 ^ i) 1)) = r := hq
            generalize wbitsF y1 h1' n1 (c / 2 ^ i) 1 = st at hcall hok hq2
            replace hcall := Aside0.mk hcall
            replace hok := Aside0.mk hok
            replace hq2 := Aside0.mk hq2
            clear hq eA2 hcb
            go_wp2_with (go_at_call 30; refine (hcall.out).mono ?_; rintro e w2 ⟨rfl, v2, s2⟩; replace s2 := Aside0.mk s2)
            go_roundg i
            case measure => omega
            case rel =>
              have hl := hok.out.2.2
              exact ⟨(i : Int) - 1, v2, st.1, st.2.1, st.2.2, rfl, by omega, by omega, by omega, hok.out.2.1, by omega, ⟨s2.out, hok.out.1, by rw [show (i : Int) - 1 + 1 = (i : Int) by omega, Int.toNat_natCast, hc]; exact hq2.out⟩⟩
          · have kj : decide (0 ≤ j) = false := decide_eq_false hj
            obtain rfl : j = -1 := by omega
            have hq := HR.out.2.2
            have hq2 : ((0 : Int), y1, h1', n1) = r := hq
            replace hq2 := Aside0.mk hq2
            clear hq
            go_wp2
            go_ret
            rw [← hq2.out]
            exact ⟨rfl, v1, HR.out.1⟩
end Go.Proofs.Ytpldapjcojjicaa.B
