/- Layer 1's readers, the program's and the document's, side by side; the document's table's Next: their contracts. -/
import Derived.Test.YtpldapjcojjicaaNm
import Derived.Test.YtpldapjcojjicaaNx
import Derived.Test.YtpldapjcojjicaaTb
namespace Go.Proofs.Ytpldapjcojjicaa.B
open Go.RowKit Go.Proofs.YtpldapjcojjicaaW.PrintWords Go.Proofs.YtpldapjcojjicaaW.PrintLast Go.Proofs.YtpldapjcojjicaaW.PrintMore Go.Proofs.Ytpldapjcojjicaa.Pb
set_option linter.unusedVariables false
set_option linter.unusedSimpArgs false

/-- The document's reader at block g. -/
def IsX (W : World) (g : Nat) (S : ByteArray) (a : Nat) : Prop := W.heap[g]? = some (.cells #[.string S, .int .i64 (a : Int)] 30 (0, 0))
/-- Both readers, made since W. -/
structure BR (W w : World) (S d : ByteArray) (h n a : Nat) : Prop where
  rd : IsR w W.heap.size d h n
  x : IsX w (W.heap.size + 1) S a
  bel : Below W.heap.size W w
theorem BR.byR {W w w' : World} {S d d1 : ByteArray} {h n a h1 n1 : Nat} (s : BR W w S d h n a) (hr : IsR w' W.heap.size d1 h1 n1) (hf : Fr (· = W.heap.size) w w') : BR W w' S d1 h1 n1 a :=
  ⟨hr, hf.blk s.x (by omega), s.bel.trans (hf.to_below (fun k hk _ => by omega) s.bel.size)⟩
theorem BR.byN {W w w' : World} {S d : ByteArray} {h n a : Nat} (s : BR W w S d h n a) (hf : Drawn0 w w') : BR W w' S d h n a :=
  ⟨(Fr.of_drawn hf).blk s.rd (fun e => e), (Fr.of_drawn hf).blk s.x (fun e => e), s.bel.trans ((Fr.of_drawn hf).to_below (fun _ _ _ e => e) s.bel.size)⟩
theorem BR.byX {W w w' : World} {S d : ByteArray} {h n a a1 : Nat} (s : BR W w S d h n a) (hx : IsS30 W w' (W.heap.size + 1) S (a1 : Int)) (hb : Below W.heap.size W w') (hk : KeepBut w w' (W.heap.size + 1) none) : BR W w' S d h n a1 :=
  ⟨(hk.2 _ (blk_lt s.rd) (by omega) (by simp)).trans s.rd, hx.1, hb⟩

theorem br_left {W w : World} {S d : ByteArray} {h n a : Nat} (s : BR W w S d h n a) (R : Rel S d h n a) (hS : S.size ≤ 140737488351232) :
    Calls Try.prog 23 #[.pointer (some ⟨W.heap.size, 0, none⟩)] w fun e w' => e = .returned (.int .i64 ((8 * d.size + n : Nat) : Int)) ∧ BR W w' S d h n a := by
  have hd := R.hd
  have hn := R.hn
  refine (left_calls w _ d h n s.rd (by omega) (by omega)).mono ?_
  rintro e w' ⟨rfl, h1⟩
  exact ⟨rfl, s.byN h1⟩
theorem x_bit1 {W w : World} {S d d1 : ByteArray} {h n a h1 n1 : Nat} (s : BR W w S d1 h1 n1 a) (R : Rel S d h n a) (hS : S.size ≤ 140737488351232) (k : Int) :
    Calls Try.prog 22 #[.pointer (some ⟨W.heap.size + 1, 0, none⟩), .int .i64 k] w fun e w' => e = .returned (.tuple #[.int .i64 (rbitsF d h n k).1, .int .i64 (rbitsF d h n k).2.1]) ∧ ∃ a1, BR W w' S d1 h1 n1 a1 ∧ Rel S (rbitsF d h n k).2.2.1 (rbitsF d h n k).2.2.2.1 (rbitsF d h n k).2.2.2.2 a1 := by
  obtain ⟨a1, hev, hR⟩ := xbits S d hS h n a R k
  obtain ⟨f, hf⟩ := Ev.rounds hev
  refine (vitrineref01_Reader_Bits.calls f (W.heap.size + 1) S (a : Int) k _ _ _ _ W w ⟨s.x, by omega⟩ s.bel hf).mono ?_
  rintro e w' ⟨rfl, h1, h2, h3⟩
  exact ⟨rfl, a1, s.byX h1 h2 h3, hR⟩
theorem x_left {W w : World} {S d : ByteArray} {h n a : Nat} (s : BR W w S d h n a) (R : Rel S d h n a) (hS : S.size ≤ 140737488351232) :
    Calls Try.prog 24 #[.pointer (some ⟨W.heap.size + 1, 0, none⟩)] w fun e w' => e = .returned (.int .i64 ((8 * d.size + n : Nat) : Int)) ∧ BR W w' S d h n a := by
  refine (vitrineref01_Reader_Left.calls (W.heap.size + 1) S (a : Int) _ _ _ W w ⟨s.x, by omega⟩ s.bel (xleft S d hS h n a R)).mono ?_
  rintro e w' ⟨rfl, h1, h2, h3⟩
  exact ⟨rfl, s.byX h1 h2 h3⟩
theorem br_start (W : World) (S : ByteArray) : BR W ((W.alloc (.cells #[.string S, .int .i64 0, .int .i64 0] 75)).alloc (.cells #[.string S, .int .i64 0] 30)) S S 0 0 0 := by
  have hs : (W.alloc (.cells #[.string S, .int .i64 0, .int .i64 0] 75)).heap.size = W.heap.size + 1 := by simp
  refine ⟨(heap_alloc_old _ _ (by rw [hs]; omega)).trans (heap_alloc_new W _), ?_, ((Fr.refl (fun _ => False) W).alloc _).alloc _ |>.to_below (fun _ _ _ e => e) (Nat.le_refl _)⟩
  unfold IsX
  rw [← hs]
  exact heap_alloc_new _ _


theorem refsum (W : World) (A : Option Addr) (c : Nat) (l : List Int) (hC : Kd.C (Kd.int .i64) W A l.length l) (hc : l.length ≤ c) (hg : Pure.Good l) (hl : l.length ≤ 1000) :
    Calls Try.prog 51 #[.slice A l.length c] W fun e W' => e = .returned (.tuple #[.int .i64 (Pure.sumS l), .int .i64 (Pure.sumM l), .int .i64 (Pure.sumX 0 l)]) ∧ Below W.heap.size W W' := by
  refine (Pl.vitrineref02_sum.calls _ A c l _ _ _ W hC hc (Pure.sum_is l (l.length + 1) hg hl (Nat.lt_succ_self _))).mono ?_
  rintro e W' ⟨h1, h2⟩
  exact ⟨h1, h2⟩
/-- What is told of the document's Next's return. -/
def NextPostX (W : World) (S d1 : ByteArray) (h1 n1 : Nat) (res : Int × Int × ByteArray × Nat × Nat) (e : Ending) (w' : World) : Prop :=
  e = .returned (.tuple #[.int .i64 res.1, .int .i64 res.2.1]) ∧ ∃ a1, BR W w' S d1 h1 n1 a1 ∧ Rel S res.2.2.1 res.2.2.2.1 res.2.2.2.2 a1
theorem BR.byF {W w w' : World} {S d : ByteArray} {h n a : Nat} (s : BR W w S d h n a) (hf : Below w.heap.size w w') : BR W w' S d h n a :=
  ⟨(Fr.of_below hf).blk s.rd (fun e => e), (Fr.of_below hf).blk s.x (fun e => e), s.bel.trans (hf.mono s.bel.size)⟩
set_option maxHeartbeats 4000000 in
set_option maxRecDepth 100000 in
theorem refnext_calls {W w : World} {T c1 c2 : Nat} {A1 A2 : Option Addr} {L C : List Int} (hU : IsU W T A1 c1 A2 c2 L C) (hg : Pure.Good L) (hLC : C.length = L.length) (h288 : L.length ≤ 288) {S d d1 : ByteArray} {h n a h1 n1 : Nat} (s : BR W w S d1 h1 n1 a) (R : Rel S d h n a) (hS : S.size ≤ 140737488351232)
    (res : Int × Int × ByteArray × Nat × Nat) (hres : nextX L C (Pure.mostX L) 1 0 d h n = res) :
    Calls Try.prog 47 #[.pointer (some ⟨T, 0, none⟩), .pointer (some ⟨W.heap.size + 1, 0, none⟩)] w (NextPostX W S d1 h1 n1 res) := by
  have hsum := Aside0.mk (refsum w A1 c1 L (hU.below s.bel).lens hU.cap hg (by omega))
  have c0 := (hU.below s.bel).cell0
  have hmo : Pure.mostX L ≤ 15 := by unfold Pure.mostX; split <;> (try split) <;> omega
  have hmx : (Pure.sumM L = 0 → Pure.mostX L = 0) ∧ (Pure.sumM L = 1 → Pure.sumX 0 L = 1 → Pure.mostX L = 1) ∧ (Pure.sumM L ≠ 0 → ¬ (Pure.sumM L = 1 ∧ Pure.sumX 0 L = 1) → Pure.mostX L = 15) := by
    refine ⟨fun q => ?_, fun q q2 => ?_, fun q q2 => ?_⟩ <;> unfold Pure.mostX
    · rw [if_neg (fun z : Pure.sumM L = 1 ∧ Pure.sumX 0 L = 1 => by omega), if_pos q]
    · rw [if_pos ⟨q, q2⟩]
    · rw [if_neg q2, if_neg q]
  generalize Pure.mostX L = mo at *
  generalize Pure.sumM L = M at *
  generalize Pure.sumX 0 L = X at *
  generalize Pure.sumS L = Q at *
  have hs := Aside0.mk s
  have hR := Aside0.mk R
  replace hU := Aside0.mk hU
  replace hres := Aside0.mk hres
  replace hg := Aside0.mk hg
  clear s R
  have hcase : (M = 0 ∧ mo = 0) ∨ (M = 1 ∧ X = 1 ∧ mo = 1) ∨ (M = 1 ∧ X ≠ 1 ∧ mo = 15) ∨ (M ≠ 0 ∧ M ≠ 1 ∧ mo = 15) := by
    obtain ⟨q0, q1, q2⟩ := hmx
    by_cases z0 : M = 0
    · exact .inl ⟨z0, q0 z0⟩
    · by_cases z1 : M = 1
      · by_cases z2 : X = 1
        · exact .inr (.inl ⟨z1, z2, q1 z1 z2⟩)
        · exact .inr (.inr (.inl ⟨z1, z2, q2 z0 (fun z => z2 z.2)⟩))
      · exact .inr (.inr (.inr ⟨z0, z1, q2 z0 (fun z => z1 z.1)⟩))
  clear hmx
  obtain ⟨b1, b2, b3, hb1, hb2, hb3⟩ : ∃ b1 b2 b3 : Bool, (M == 0) = b1 ∧ (M == 1) = b2 ∧ (X == 1) = b3 := ⟨_, _, _, rfl, rfl, rfl⟩
  have hlit : (b1 = true ∧ b2 = false ∧ mo = 0) ∨ (b1 = false ∧ b2 = true ∧ b3 = true ∧ mo = 1) ∨ (b1 = false ∧ b2 = true ∧ b3 = false ∧ mo = 15) ∨ (b1 = false ∧ b2 = false ∧ mo = 15) := by
    rcases hcase with ⟨rfl, q⟩ | ⟨rfl, rfl, q⟩ | ⟨rfl, q2, q⟩ | ⟨q0, q1, q⟩
    · exact .inl ⟨hb1.symm, hb2.symm, q⟩
    · exact .inr (.inl ⟨hb1.symm, hb2.symm, hb3.symm, q⟩)
    · exact .inr (.inr (.inl ⟨hb1.symm, hb2.symm, by rw [← hb3]; simpa using q2, q⟩))
    · exact .inr (.inr (.inr ⟨by rw [← hb1]; simpa using q0, by rw [← hb2]; simpa using q1, q⟩))
  clear hcase
  go_enter Try.func47, Try.ntmps47
  rcases hlit with ⟨rfl, rfl, hm⟩ | hlit
  · subst hm
    have hr2 : ((0 : Int), (12 : Int), d, h, n) = res := hres.out
    replace hr2 := Aside0.mk hr2
    go_wp2_with (go_at_call 51; refine hsum.out.mono ?_; rintro e w1 ⟨rfl, hB1⟩; replace hs := Aside0.mk (hs.out.byF hB1); clear hB1)
    clear hsum hb1 hb2 hb3 c0
    go_loopg [10, 11] 0 (fun gh v10 v11 wr => v11 = .int .i64 1 ∧ Aside0 (BR W wr S d1 h1 n1 a))
    case atStart => exact ⟨rfl, hs⟩
    case round =>
      clear hs
      obtain ⟨rfl, hs⟩ := hrel
      go_wp2
      go_ret2
      rw [← hr2.out]
      exact ⟨rfl, a, hs.out, hR.out⟩
  obtain ⟨mI, hmI⟩ : ∃ mI : Int, (mo : Int) = mI := ⟨_, rfl⟩
  rcases hlit with ⟨rfl, rfl, rfl, hm⟩ | ⟨rfl, rfl, rfl, hm⟩ | ⟨rfl, rfl, hm⟩
  all_goals
    rw [hm] at hmI
    simp only [Int.cast_ofNat_Int, Int.natCast_one] at hmI
    subst hmI
    replace hm := Aside0.mk hm
    go_wp2_with (go_at_call 51; refine hsum.out.mono ?_; rintro e w1 ⟨rfl, hB1⟩; replace hs := Aside0.mk (hs.out.byF hB1); clear hB1)
    clear hsum hb1 hb2 hb3 c0
    go_loopg [10, 11] 16 (fun gh v10 v11 wr => ∃ (j : Nat) (code : Int) (d' : ByteArray) (h' n' a' : Nat), v10 = .int .i64 code ∧ v11 = .int .i64 ((j : Int) + 1) ∧ j ≤ mo ∧ mo - j ≤ gh ∧ 0 ≤ code ∧ code < ((2 ^ j : Nat) : Int) ∧ Aside0 (BR W wr S d1 h1 n1 a' ∧ Rel S d' h' n' a' ∧ nextX L C (mo - j) (j + 1) code d' h' n' = res))
    case atStart => exact ⟨0, 0, d, h, n, a, rfl, rfl, Nat.zero_le _, by omega, by omega, by simp, ⟨hs.out, hR.out, hres.out⟩⟩
    case round =>
      clear hs hR hres
      obtain ⟨j, code, d', h', n', a', rfl, rfl, hj, hgh, hs0, hcp, HR⟩ := hrel
      by_cases hlt : j < mo
      · have e1 : mo - j = (mo - (j + 1)) + 1 := by omega
        have hres' := HR.out.2.2
        rw [e1] at hres'
        unfold nextX at hres'
        have hone := rbitsF_one d' h' 1
        have hone := rbitsF_one d' h' n'
        have hcall := x_bit1 HR.out.1 HR.out.2.1 hS 1
        obtain ⟨q, hq⟩ : ∃ q, rbitsF d' h' n' 1 = q := ⟨_, rfl⟩
        rw [hq] at hres' hone hcall
        clear hq
        obtain ⟨b, e, d2, h2, n2⟩ := q
        simp only at hres' hone hcall
        replace hcall := Aside0.mk hcall
        replace hres' := Aside0.mk hres'
        have p0 : decide ((j : Int) + 1 ≤ (mo : Int)) = true := decide_eq_true (by omega)
        rw [hm.out] at p0
        simp only [Int.cast_ofNat_Int, Int.natCast_one] at p0
        by_cases he : e = 0
        · subst he
          have hr2 := hres'.out
          rw [if_neg (by decide)] at hr2
          have hp2 : (2 : Nat) ^ (j + 1) = 2 * 2 ^ j := by rw [Nat.pow_succ]; omega
          have hp14 : (2 : Nat) ^ j ≤ 2 ^ 14 := two_pow_le (by omega)
          have hcb : code ≤ 20000 := by omega
          have hb0 := hone.1
          have hb1 := hone.2
          obtain ⟨Z, hZ⟩ : ∃ Z, 2 * code + b = Z := ⟨_, rfl⟩
          have hZ0 : 0 ≤ Z := by omega
          have hZ1 : Z ≤ 50000 := by omega
          have hZ2 : Z < ((2 ^ (j + 1) : Nat) : Int) := by omega
          replace hZ2 := Aside0.mk hZ2
          rw [hZ] at hr2
          replace hr2 := Aside0.mk hr2
          clear hp2 hp14 hcp hone
          go_wp2_with (go_at_call 22; refine (hcall.out).mono ?_; rintro e w2 ⟨rfl, a2, hs2⟩; replace hs2 := Aside0.mk hs2)
          have hUw := Aside0.mk (hU.out.below hs2.out.1.bel)
          have c0 := hUw.out.cell0
          have c1 := hUw.out.cell1
          clear HR
          go_loopg [14] L.length (fun gh2 v14 wr2 => ∃ i : Nat, v14 = .int .i64 (i : Int) ∧ i ≤ L.length ∧ L.length - i ≤ gh2 ∧ wr2 = w2 ∧ Aside0 (findX ((j + 1 : Nat) : Int) Z L C 0 = findX ((j + 1 : Nat) : Int) Z (L.drop i) (C.drop i) i))
          case atStart => exact ⟨0, rfl, Nat.zero_le _, by omega, rfl, ⟨rfl⟩⟩
          case round =>
            obtain ⟨i, rfl, hi, hgi, rfl, HI⟩ := hrel
            by_cases hil : i < L.length
            · have kil : decide ((i : Int) < (L.length : Int)) = true := decide_eq_true (by omega)
              have kil' : decide (i < L.length) = true := decide_eq_true hil
              obtain ⟨ad, eA, hx⟩ := Kd.at_int hUw.out.lens (i : Int) (by omega) (by omega)
              obtain ⟨ad2, eA2, hy⟩ := Kd.at_int hUw.out.codes (i : Int) (by omega) (by omega)
              rw [eA] at c0
              rw [eA2] at c1
              rw [Int.toNat_natCast] at hx hy
              have p1 := eq_true (show (0 : Int) ≤ (i : Int) by omega)
              have q1 := eq_true (show (i : Int) < (L.length : Int) by omega)
              have q2 := eq_true (show (i : Int) < (C.length : Int) by omega)
              have hdx : L.drop i = rd L (i : Int) :: L.drop (i + 1) := by
                rw [List.drop_eq_getElem_cons hil]
                unfold rd
                rw [Int.toNat_natCast, List.getD_eq_getElem?_getD, List.getElem?_eq_getElem hil]
                rfl
              have hdy : C.drop i = rd C (i : Int) :: C.drop (i + 1) := by
                rw [List.drop_eq_getElem_cons (by omega)]
                unfold rd
                rw [Int.toNat_natCast, List.getD_eq_getElem?_getD, List.getElem?_eq_getElem (by omega)]
                rfl
              have hfi := HI.out
              rw [hdx, hdy, findX_cons] at hfi
              obtain ⟨x, hxx⟩ : ∃ x, rd L (i : Int) = x := ⟨_, rfl⟩
              obtain ⟨y, hyy⟩ : ∃ y, rd C (i : Int) = y := ⟨_, rfl⟩
              rw [hxx] at hfi hx
              rw [hyy] at hfi hy
              clear hxx hyy hdx hdy eA eA2 HI
              by_cases hxj : x = (j : Int) + 1
              · have kx : (x == (j : Int) + 1) = true := by simpa using hxj
                by_cases hyz : y = Z
                · have ky : (y == Z) = true := by simpa using hyz
                  rw [if_pos ⟨by omega, hyz⟩] at hfi
                  have hr3 := hr2.out
                  rw [hfi] at hr3
                  have hr4 : (((i : Nat) : Int), (0 : Int), d2, h2, n2) = res := hr3
                  replace hr4 := Aside0.mk hr4
                  clear hxj hyz hfi hr3
                  go_wp2
                  go_ret2
                  rw [← hr4.out]
                  exact ⟨rfl, a2, hs2.out.1, hs2.out.2⟩
                · have ky : (y == Z) = false := by simpa using hyz
                  rw [if_neg (fun q => hyz q.2)] at hfi
                  replace hfi := Aside0.mk hfi
                  clear hxj hyz
                  go_wp2
                  go_roundg (L.length - (i + 1))
                  case measure => omega
                  case rel => exact ⟨i + 1, by go_num, by omega, by omega, rfl, hfi⟩
              · have kx : (x == (j : Int) + 1) = false := by simpa using hxj
                rw [if_neg (fun q => hxj (by omega))] at hfi
                replace hfi := Aside0.mk hfi
                clear hxj
                go_wp2
                go_roundg (L.length - (i + 1))
                case measure => omega
                case rel => exact ⟨i + 1, by go_num, by omega, by omega, rfl, hfi⟩
            · have kil : decide ((i : Int) < (L.length : Int)) = false := decide_eq_false (by omega)
              have kil' : decide (i < L.length) = false := decide_eq_false hil
              have hfi := HI.out
              rw [List.drop_eq_nil_of_le (by omega)] at hfi
              have hfn : findX ((j + 1 : Nat) : Int) Z L C 0 = none := hfi
              have hr3 := hr2.out
              rw [hfn] at hr3
              have hr4 : nextX L C (mo - (j + 1)) (j + 1 + 1) Z d2 h2 n2 = res := hr3
              replace hr4 := Aside0.mk hr4
              clear hfi hfn hr3 HI
              go_wp2
              go_roundg (mo - (j + 1))
              case measure => omega
              case rel => exact ⟨j + 1, Z, d2, h2, n2, a2, rfl, by go_num, by omega, by omega, hZ0, hZ2.out, ⟨hs2.out.1, hs2.out.2, hr4.out⟩⟩
        · have he' : (e != 0) = true := by simpa using he
          have hr2 := hres'.out
          rw [if_pos he] at hr2
          replace hr2 := Aside0.mk hr2
          clear he
          go_wp2_with (go_at_call 22; refine (hcall.out).mono ?_; rintro e w2 ⟨rfl, a2, hs2⟩; replace hs2 := Aside0.mk hs2)
          go_ret2
          rw [← hr2.out]
          exact ⟨rfl, a2, hs2.out.1, hs2.out.2⟩
      · have hjm : j = mo := by omega
        have p0 : decide ((j : Int) + 1 ≤ (mo : Int)) = false := decide_eq_false (by omega)
        rw [hm.out] at p0
        simp only [Int.cast_ofNat_Int, Int.natCast_one] at p0
        have hres' := HR.out.2.2
        rw [hjm, Nat.sub_self] at hres'
        clear hjm
        have hr2 : ((0 : Int), (12 : Int), d', h', n') = res := hres'
        replace hr2 := Aside0.mk hr2
        clear hres'
        go_wp2
        go_ret2
        rw [← hr2.out]
        exact ⟨rfl, a', HR.out.1, HR.out.2.1⟩
end Go.Proofs.Ytpldapjcojjicaa.B
