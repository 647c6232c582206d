/- BitsReads: the walk: what is taken off bytes, call by call, is what the document's reader takes. -/
import Derived.Test.YtpldapjcojjicaaNum
import Derived.Test.YtpldapjcojjicaaAw
namespace Go.Proofs.Ytpldapjcojjicaa.B
open Go.RowKit Go.Proofs.YtpldapjcojjicaaW.PrintWords Go.Proofs.YtpldapjcojjicaaW.PrintLast Go.Proofs.Ytpldapjcojjicaa.Pb
set_option linter.unusedVariables false
set_option linter.unusedSimpArgs false

/-- The document's reader at block g. -/
def IsX (W : World) (g : Nat) (S : ByteArray) (a : Nat) : Prop := W.heap[g]? = some (.cells #[.string S, .int .i64 (a : Int)] 30 (0, 0))
/-- Both readers, made since W. -/
structure BR (W w : World) (S d : ByteArray) (h n a : Nat) : Prop where
  rd : IsR w W.heap.size d h n
  x : IsX w (W.heap.size + 1) S a
  bel : Below W.heap.size W w
theorem BR.byR {W w w' : World} {S d d1 : ByteArray} {h n a h1 n1 : Nat} (s : BR W w S d h n a) (hr : IsR w' W.heap.size d1 h1 n1) (hf : Fr (· = W.heap.size) w w') : BR W w' S d1 h1 n1 a :=
  ⟨hr, hf.blk s.x (by omega), s.bel.trans (hf.to_below (fun k hk _ => by omega) s.bel.size)⟩
theorem BR.byN {W w w' : World} {S d : ByteArray} {h n a : Nat} (s : BR W w S d h n a) (hf : Drawn0 w w') : BR W w' S d h n a :=
  ⟨(Fr.of_drawn hf).blk s.rd (fun e => e), (Fr.of_drawn hf).blk s.x (fun e => e), s.bel.trans ((Fr.of_drawn hf).to_below (fun _ _ _ e => e) s.bel.size)⟩
theorem BR.byX {W w w' : World} {S d : ByteArray} {h n a a1 : Nat} (s : BR W w S d h n a) (hx : IsS30 W w' (W.heap.size + 1) S (a1 : Int)) (hb : Below W.heap.size W w') (hk : KeepBut w w' (W.heap.size + 1) none) : BR W w' S d h n a1 :=
  ⟨(hk.2 _ (blk_lt s.rd) (by omega) (by simp)).trans s.rd, hx.1, hb⟩

theorem br_bits {W w : World} {S d : ByteArray} {h n a : Nat} (s : BR W w S d h n a) (R : Rel S d h n a) (hS : S.size ≤ 140737488351232) (k : Int) :
    Calls Try.prog 21 #[.pointer (some ⟨W.heap.size, 0, none⟩), .int .i64 k] w fun e w' => e = .returned (.tuple #[.int .i64 (rbitsF d h n k).1, .int .i64 (rbitsF d h n k).2.1]) ∧ BR W w' S (rbitsF d h n k).2.2.1 (rbitsF d h n k).2.2.2.1 (rbitsF d h n k).2.2.2.2 a := by
  have hd := R.hd
  refine (rbits_calls w _ d h n k s.rd R.hn R.hh (by omega)).mono ?_
  rintro e w' ⟨rfl, h1, h2⟩
  exact ⟨rfl, s.byR h1 h2⟩
theorem br_bytes {W w : World} {S d : ByteArray} {h n a : Nat} (s : BR W w S d h n a) (R : Rel S d h n a) (hS : S.size ≤ 140737488351232) (k : Int) :
    Calls Try.prog 19 #[.pointer (some ⟨W.heap.size, 0, none⟩), .int .i64 k] w fun e w' => e = .returned (.tuple #[.string (rbytesF d h n k).1, .int .i64 (rbytesF d h n k).2.1]) ∧ BR W w' S (rbytesF d h n k).2.2.1 (rbytesF d h n k).2.2.2.1 (rbytesF d h n k).2.2.2.2 a := by
  have hd := R.hd
  refine (rbytes_calls w _ d h n k s.rd (by omega)).mono ?_
  rintro e w' ⟨rfl, h1, h2⟩
  exact ⟨rfl, s.byR h1 h2⟩
theorem br_left {W w : World} {S d : ByteArray} {h n a : Nat} (s : BR W w S d h n a) (R : Rel S d h n a) (hS : S.size ≤ 140737488351232) :
    Calls Try.prog 23 #[.pointer (some ⟨W.heap.size, 0, none⟩)] w fun e w' => e = .returned (.int .i64 ((8 * d.size + n : Nat) : Int)) ∧ BR W w' S d h n a := by
  have hd := R.hd
  have hn := R.hn
  refine (left_calls w _ d h n s.rd (by omega) (by omega)).mono ?_
  rintro e w' ⟨rfl, h1⟩
  exact ⟨rfl, s.byN h1⟩
theorem x_bits {W w : World} {S d d1 : ByteArray} {h n a h1 n1 : Nat} (s : BR W w S d1 h1 n1 a) (R : Rel S d h n a) (hS : S.size ≤ 140737488351232) (k : Int) (e1 : (rbitsF d h n k).2.2.1 = d1) (e2 : (rbitsF d h n k).2.2.2.1 = h1) (e3 : (rbitsF d h n k).2.2.2.2 = n1) :
    Calls Try.prog 22 #[.pointer (some ⟨W.heap.size + 1, 0, none⟩), .int .i64 k] w fun e w' => e = .returned (.tuple #[.int .i64 (rbitsF d h n k).1, .int .i64 (rbitsF d h n k).2.1]) ∧ ∃ a1, BR W w' S d1 h1 n1 a1 ∧ Rel S d1 h1 n1 a1 := by
  obtain ⟨a1, hev, hR⟩ := xbits S d hS h n a R k
  obtain ⟨f, hf⟩ := Ev.rounds hev
  rw [e1, e2, e3] at hR
  refine (vitrineref01_Reader_Bits.calls f (W.heap.size + 1) S (a : Int) k _ _ _ _ W w ⟨s.x, by omega⟩ s.bel hf).mono ?_
  rintro e w' ⟨rfl, h1, h2, h3⟩
  exact ⟨rfl, a1, s.byX h1 h2 h3, hR⟩
theorem x_bytes {W w : World} {S d d1 : ByteArray} {h n a h1 n1 : Nat} (s : BR W w S d1 h1 n1 a) (R : Rel S d h n a) (hS : S.size ≤ 140737488351232) (k : Int) (e1 : (rbytesF d h n k).2.2.1 = d1) (e2 : (rbytesF d h n k).2.2.2.1 = h1) (e3 : (rbytesF d h n k).2.2.2.2 = n1) :
    Calls Try.prog 20 #[.pointer (some ⟨W.heap.size + 1, 0, none⟩), .int .i64 k] w fun e w' => e = .returned (.tuple #[.string (rbytesF d h n k).1, .int .i64 (rbytesF d h n k).2.1]) ∧ ∃ a1, BR W w' S d1 h1 n1 a1 ∧ Rel S d1 h1 n1 a1 := by
  obtain ⟨a1, hf, hR⟩ := xbytes S d hS h n a R k
  rw [e1, e2, e3] at hR
  refine (vitrineref01_Reader_Bytes.calls (W.heap.size + 1) S (a : Int) k _ _ _ _ W w ⟨s.x, by omega⟩ s.bel hf).mono ?_
  rintro e w' ⟨rfl, h1, h2, h3⟩
  exact ⟨rfl, a1, s.byX h1 h2 h3, hR⟩
theorem x_left {W w : World} {S d : ByteArray} {h n a : Nat} (s : BR W w S d h n a) (R : Rel S d h n a) (hS : S.size ≤ 140737488351232) :
    Calls Try.prog 24 #[.pointer (some ⟨W.heap.size + 1, 0, none⟩)] w fun e w' => e = .returned (.int .i64 ((8 * d.size + n : Nat) : Int)) ∧ BR W w' S d h n a := by
  refine (vitrineref01_Reader_Left.calls (W.heap.size + 1) S (a : Int) _ _ _ W w ⟨s.x, by omega⟩ s.bel (xleft S d hS h n a R)).mono ?_
  rintro e w' ⟨rfl, h1, h2, h3⟩
  exact ⟨rfl, s.byX h1 h2 h3⟩
theorem br_start (W : World) (S : ByteArray) : BR W ((W.alloc (.cells #[.string S, .int .i64 0, .int .i64 0] 75)).alloc (.cells #[.string S, .int .i64 0] 30)) S S 0 0 0 := by
  have hs : (W.alloc (.cells #[.string S, .int .i64 0, .int .i64 0] 75)).heap.size = W.heap.size + 1 := by simp
  refine ⟨(heap_alloc_old _ _ (by rw [hs]; omega)).trans (heap_alloc_new W _), ?_, ((Fr.refl (fun _ => False) W).alloc _).alloc _ |>.to_below (fun _ _ _ e => e) (Nat.le_refl _)⟩
  unfold IsX
  rw [← hs]
  exact heap_alloc_new _ _

set_option maxHeartbeats 2000000 in
set_option maxRecDepth 100000 in
theorem breads_calls (W : World) (S : ByteArray) (A : Option Addr) (c : Nat) (ops : List S32) (hC : Kd.C k32 W A ops.length ops) (hS : S.size ≤ 140737488351232) :
    Calls Try.prog 4 #[.string S, .slice A ops.length c] W fun e W' => e = .returned (.bool true) ∧ Below W.heap.size W W' := by
  have hC := Aside0.mk hC
  have hAw : ∀ w, Calls Try.prog 17 #[] w fun e w' => e = .returned (.bool true) ∧ Below w.heap.size w w' := fun w => vitrinelaw01_awake.calls true w rfl
  go_enter Try.func4, Try.ntmps4
  go_wp2_with (go_at_call 18; refine (read_calls W _).mono ?_; rintro e w1 ⟨rfl, rfl⟩)
  have HS0 : Aside0 (BR W ((W.alloc (.cells #[.string S, .int .i64 0, .int .i64 0] 75)).alloc (.cells #[.string S, .int .i64 0] 30)) S S 0 0 0) := ⟨br_start W S⟩
  have HR0 : Aside0 (Rel S S 0 0 0) := ⟨Rel.start S⟩
  go_loopg [7] 300 (fun gh v7 wr => ∃ (x : Int) (d : ByteArray) (h n a : Nat), v7 = .int .i64 x ∧ 0 ≤ x ∧ x ≤ 300 ∧ 300 - x ≤ gh ∧ Aside0 (BR W wr S d h n a) ∧ Aside0 (Rel S d h n a))
  case atStart => exact ⟨0, S, 0, 0, 0, rfl, by omega, by omega, by omega, HS0, HR0⟩
  case round =>
    clear HS0 HR0
    obtain ⟨x, d, h, n, a, rfl, hx0, hx1, hgh, HS, HR⟩ := hrel
    by_cases hc : x < (ops.length : Int) ∧ x < 300
    · have hcb : decide (x < (ops.length : Int)) = true := decide_eq_true hc.1
      have hcb' : decide (x < 300) = true := decide_eq_true hc.2
      obtain ⟨ad, eA, y0, y1, y2⟩ := at_T32 hC.out x hx0 hc.1
      cases eA
      obtain ⟨o, ho⟩ : ∃ o, rd_T32 ops x = o := ⟨_, rfl⟩
      obtain ⟨wh, N, V⟩ := o
      rw [ho] at y0 y1 y2
      replace y0 := (HS.out.bel.cell (World.block_lt_of_cell? W _ y0)).trans y0
      replace y1 := (HS.out.bel.cell (World.block_lt_of_cell? W _ y1)).trans y1
      clear y2 ho
      have p0 := eq_true hx0
      have q0 := eq_true hc.1
      cases wh
      case true =>
        obtain ⟨d2, e1⟩ : ∃ d2, (rbytesF d h n N).2.2.1 = d2 := ⟨_, rfl⟩
        obtain ⟨h2, e2⟩ : ∃ h2, (rbytesF d h n N).2.2.2.1 = h2 := ⟨_, rfl⟩
        obtain ⟨n2, e3⟩ : ∃ n2, (rbytesF d h n N).2.2.2.2 = n2 := ⟨_, rfl⟩
        have hb := br_bytes HS.out HR.out hS N
        rw [e1, e2, e3] at hb
        have hx := fun (w : World) (s : BR W w S d2 h2 n2 a) => x_bytes s HR.out hS N e1 e2 e3
        obtain ⟨r1, hr1⟩ : ∃ r1, (rbytesF d h n N).1 = r1 := ⟨_, rfl⟩
        obtain ⟨r2, hr2⟩ : ∃ r2, (rbytesF d h n N).2.1 = r2 := ⟨_, rfl⟩
        rw [hr1, hr2] at hb hx
        have hb := Aside0.mk hb
        have hx := Aside0.mk hx
        clear e1 e2 e3 hr1 hr2
        go_wp2_with (first | (go_at_call 19; refine (hb.out).mono ?_; rintro e w2 ⟨rfl, s2⟩; replace HS := Aside0.mk s2; clear s2 hb) | (go_at_call 20; refine (hx.out _ HS.out).mono ?_; rintro e w3 ⟨rfl, a2, s3, R3⟩; replace HS := Aside0.mk s3; replace HR := Aside0.mk R3; clear s3 R3 hx) | (go_at_call 23; refine (br_left HS.out HR.out hS).mono ?_; rintro e w4 ⟨rfl, s4⟩; replace HS := Aside0.mk s4; clear s4) | (go_at_call 24; refine (x_left HS.out HR.out hS).mono ?_; rintro e w5 ⟨rfl, s5⟩; replace HS := Aside0.mk s5; clear s5))
        go_roundg (300 - (x + 1)).toNat
        case measure => omega
        case rel => exact ⟨x + 1, d2, h2, n2, a2, rfl, by omega, by omega, by omega, HS, HR⟩
      case false =>
        obtain ⟨d2, e1⟩ : ∃ d2, (rbitsF d h n N).2.2.1 = d2 := ⟨_, rfl⟩
        obtain ⟨h2, e2⟩ : ∃ h2, (rbitsF d h n N).2.2.2.1 = h2 := ⟨_, rfl⟩
        obtain ⟨n2, e3⟩ : ∃ n2, (rbitsF d h n N).2.2.2.2 = n2 := ⟨_, rfl⟩
        have hb := br_bits HS.out HR.out hS N
        rw [e1, e2, e3] at hb
        have hx := fun (w : World) (s : BR W w S d2 h2 n2 a) => x_bits s HR.out hS N e1 e2 e3
        obtain ⟨r1, hr1⟩ : ∃ r1, (rbitsF d h n N).1 = r1 := ⟨_, rfl⟩
        obtain ⟨r2, hr2⟩ : ∃ r2, (rbitsF d h n N).2.1 = r2 := ⟨_, rfl⟩
        rw [hr1, hr2] at hb hx
        have hb := Aside0.mk hb
        have hx := Aside0.mk hx
        clear e1 e2 e3 hr1 hr2
        go_wp2_with (first | (go_at_call 21; refine (hb.out).mono ?_; rintro e w2 ⟨rfl, s2⟩; replace HS := Aside0.mk s2; clear s2 hb) | (go_at_call 22; refine (hx.out _ HS.out).mono ?_; rintro e w3 ⟨rfl, a2, s3, R3⟩; replace HS := Aside0.mk s3; replace HR := Aside0.mk R3; clear s3 R3 hx) | (go_at_call 23; refine (br_left HS.out HR.out hS).mono ?_; rintro e w4 ⟨rfl, s4⟩; replace HS := Aside0.mk s4; clear s4) | (go_at_call 24; refine (x_left HS.out HR.out hS).mono ?_; rintro e w5 ⟨rfl, s5⟩; replace HS := Aside0.mk s5; clear s5))
        go_roundg (300 - (x + 1)).toNat
        case measure => omega
        case rel => exact ⟨x + 1, d2, h2, n2, a2, rfl, by omega, by omega, by omega, HS, HR⟩
    · have hout : decide (x < (ops.length : Int)) = false ∨ (decide (x < (ops.length : Int)) = true ∧ decide (x < 300) = false) := by
        by_cases h1 : x < (ops.length : Int)
        · exact .inr ⟨decide_eq_true h1, decide_eq_false (fun h2 => hc ⟨h1, h2⟩)⟩
        · exact .inl (decide_eq_false h1)
      rcases hout with ho | ⟨ho, ho'⟩
      all_goals
        go_wp2_with (go_at_call 17; refine (hAw _).mono ?_; rintro e w6 ⟨rfl, hbel⟩)
        go_ret
        exact ⟨rfl, HS.out.bel.trans (hbel.mono HS.out.bel.size)⟩
end Go.Proofs.Ytpldapjcojjicaa.B
