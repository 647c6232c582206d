/- Layer 1 (bits): the chapter's examples hold: awake's contract. -/
import Derived.Test.YtpldapjcojjicaaPb1a
import Derived.Test.YtpldapjcojjicaaPb2
import Derived.Test.YtpldapjcojjicaaWr2
namespace Go.Proofs.Ytpldapjcojjicaa.B
open Go.RowKit Go.Proofs.YtpldapjcojjicaaW.PrintWords Go.Proofs.YtpldapjcojjicaaW.PrintLast
set_option linter.unusedVariables false
set_option linter.unusedSimpArgs false

theorem rbF1 : rbitsF ⟨#[181, 1]⟩ 0 0 3 = (5, 0, ⟨#[1]⟩, 22, 5) := by
  have e : rfill ⟨#[181, 1]⟩ 0 0 3 = (⟨#[1]⟩, 181, 8) := by
    rw [← rfill_go (by decide), rfill_end (by decide)]
    decide +kernel
  unfold rbitsF
  rw [if_neg (by decide), if_neg (by decide), show (3 : Int).toNat = 3 from rfl, e]
  decide +kernel
theorem rbF2 : rbitsF ⟨#[1]⟩ 22 5 4 = (6, 0, ⟨#[1]⟩, 1, 1) := by
  have e : rfill ⟨#[1]⟩ 22 5 4 = (⟨#[1]⟩, 22, 5) := rfill_end (by decide)
  unfold rbitsF
  rw [if_neg (by decide), if_neg (by decide), show (4 : Int).toNat = 4 from rfl, e]
  decide +kernel
theorem rbF3 : rbitsF ⟨#[1]⟩ 1 1 0 = (0, 0, ⟨#[1]⟩, 1, 1) := by
  have e : rfill ⟨#[1]⟩ 1 1 0 = (⟨#[1]⟩, 1, 1) := rfill_end (by decide)
  unfold rbitsF
  rw [if_neg (by decide), if_neg (by decide), show (0 : Int).toNat = 0 from rfl, e]
  decide +kernel
theorem rbF4 : rbytesF ⟨#[1]⟩ 1 1 1 = (⟨#[1]⟩, 0, ⟨#[]⟩, 0, 0) := by
  unfold rbytesF
  rw [if_neg (by decide), if_neg (by decide)]
  decide +kernel
theorem wbF1 : wbitsF [] 0 0 5 3 = ([], 5, 3) := by
  unfold wbitsF
  rw [if_neg (by decide), wflush_end (by decide)]
  rfl
theorem wbF2 : wbitsF [] 5 3 6 4 = ([], 53, 7) := by
  unfold wbitsF
  rw [if_neg (by decide), wflush_end (by decide)]
  rfl

theorem WPost.blk {W W' : World} {B g : Nat} {v v' : Value} {xs xs' : List Int} {h' n' : Nat} (hP : WPost W W' B g v v' xs' h' n') (hR : Row W B v xs) {k : Nat} {cs : Array Value} {t : TypeId} (hk : W.heap[k]? = some (.cells cs t (0, 0))) (ht : t ≠ 5) (hg : k ≠ g) : W'.heap[k]? = some (.cells cs t (0, 0)) :=
  hP.fr.blk hk (fun h => h.elim hg (fun e => row_ne hR hk ht e.symm))
theorem WPost.frB {W W' : World} {B g : Nat} {v v' : Value} {xs xs' : List Int} {h' n' : Nat} (hP : WPost W W' B g v v' xs' h' n') (hR : Row W B v xs) (hg : B ≤ g) : Fr (fun b => B ≤ b) W W' :=
  hP.fr.mono (fun k _ h => by
    rcases h with rfl | h
    · exact hg
    · exact own_base hR k h)

theorem rb1 {W : World} {g : Nat} (hI : IsR W g ⟨#[181, 1]⟩ 0 0) : Calls Try.prog 21 #[.pointer (some ⟨g, 0, none⟩), .int .i64 3] W fun e W' => e = .returned (.tuple #[.int .i64 5, .int .i64 0]) ∧ IsR W' g ⟨#[1]⟩ 22 5 ∧ Fr (· = g) W W' := by
  have h := rbits_calls W g _ _ _ 3 hI (by decide) (by decide) (by decide)
  rw [rbF1] at h
  exact h
theorem rb2 {W : World} {g : Nat} (hI : IsR W g ⟨#[1]⟩ 22 5) : Calls Try.prog 21 #[.pointer (some ⟨g, 0, none⟩), .int .i64 4] W fun e W' => e = .returned (.tuple #[.int .i64 6, .int .i64 0]) ∧ IsR W' g ⟨#[1]⟩ 1 1 ∧ Fr (· = g) W W' := by
  have h := rbits_calls W g _ _ _ 4 hI (by decide) (by decide) (by decide)
  rw [rbF2] at h
  exact h
theorem rb3 {W : World} {g : Nat} (hI : IsR W g ⟨#[1]⟩ 1 1) : Calls Try.prog 21 #[.pointer (some ⟨g, 0, none⟩), .int .i64 0] W fun e W' => e = .returned (.tuple #[.int .i64 0, .int .i64 0]) ∧ IsR W' g ⟨#[1]⟩ 1 1 ∧ Fr (· = g) W W' := by
  have h := rbits_calls W g _ _ _ 0 hI (by decide) (by decide) (by decide)
  rw [rbF3] at h
  exact h
theorem rb4 {W : World} {g : Nat} (hI : IsR W g ⟨#[1]⟩ 1 1) : Calls Try.prog 19 #[.pointer (some ⟨g, 0, none⟩), .int .i64 1] W fun e W' => e = .returned (.tuple #[.string ⟨#[1]⟩, .int .i64 0]) ∧ IsR W' g ⟨#[]⟩ 0 0 ∧ Fr (· = g) W W' := by
  have h := rbytes_calls W g _ _ _ 1 hI (by decide)
  rw [rbF4] at h
  exact h
/-- What is known of both behind a call on the writer. -/
def WB (W' : World) (B g : Nat) (xs : List Int) (h n : Nat) : Prop := ∃ v, IsW W' g v h n ∧ Row W' B v xs
theorem wb1 {W : World} {B g : Nat} (hW : WB W B g [] 0 0) (hB : B ≤ W.heap.size) (hg : B ≤ g) : Calls Try.prog 29 #[.pointer (some ⟨g, 0, none⟩), .int .i64 5, .int .i64 3] W fun e W' => e = .returned (.tuple #[]) ∧ WB W' B g [] 5 3 ∧ Fr (fun b => B ≤ b) W W' ∧ ∀ (k : Nat) (cs : Array Value) (t : TypeId), W.heap[k]? = some (.cells cs t (0, 0)) → t ≠ 5 → k ≠ g → W'.heap[k]? = some (.cells cs t (0, 0)) := by
  obtain ⟨v, hI, hR⟩ := hW
  have h := wbits_calls W B g v [] 0 0 5 3 hI hR hB (by decide) (by decide) (by decide)
  rw [wbF1] at h
  refine h.mono ?_
  rintro e w' ⟨rfl, v', hP⟩
  exact ⟨rfl, ⟨v', hP.st, hP.row⟩, hP.frB hR hg, fun k cs t hk ht hn => hP.blk hR hk ht hn⟩
theorem wb2 {W : World} {B g : Nat} (hW : WB W B g [] 5 3) (hB : B ≤ W.heap.size) (hg : B ≤ g) : Calls Try.prog 29 #[.pointer (some ⟨g, 0, none⟩), .int .i64 6, .int .i64 4] W fun e W' => e = .returned (.tuple #[]) ∧ WB W' B g [] 53 7 ∧ Fr (fun b => B ≤ b) W W' ∧ ∀ (k : Nat) (cs : Array Value) (t : TypeId), W.heap[k]? = some (.cells cs t (0, 0)) → t ≠ 5 → k ≠ g → W'.heap[k]? = some (.cells cs t (0, 0)) := by
  obtain ⟨v, hI, hR⟩ := hW
  have h := wbits_calls W B g v [] 5 3 6 4 hI hR hB (by decide) (by decide) (by decide)
  rw [wbF2] at h
  refine h.mono ?_
  rintro e w' ⟨rfl, v', hP⟩
  exact ⟨rfl, ⟨v', hP.st, hP.row⟩, hP.frB hR hg, fun k cs t hk ht hn => hP.blk hR hk ht hn⟩
theorem wb3 {W : World} {B g : Nat} (hW : WB W B g [] 53 7) (hB : B ≤ W.heap.size) (hg : B ≤ g) : Calls Try.prog 26 #[.pointer (some ⟨g, 0, none⟩), .string ⟨#[120]⟩] W fun e W' => e = .returned (.tuple #[]) ∧ WB W' B g [53, 120] 0 0 ∧ Fr (fun b => B ≤ b) W W' ∧ ∀ (k : Nat) (cs : Array Value) (t : TypeId), W.heap[k]? = some (.cells cs t (0, 0)) → t ≠ 5 → k ≠ g → W'.heap[k]? = some (.cells cs t (0, 0)) := by
  obtain ⟨v, hI, hR⟩ := hW
  have h := wbytes_calls W B g v [] 53 7 ⟨#[120]⟩ hI hR hB (by decide) (by decide) (by decide) (by decide)
  refine h.mono ?_
  rintro e w' ⟨rfl, v', hP⟩
  exact ⟨rfl, ⟨v', hP.st, hP.row⟩, hP.frB hR hg, fun k cs t hk ht hn => hP.blk hR hk ht hn⟩
theorem wb4 {W : World} {B g : Nat} (hW : WB W B g [53, 120] 0 0) : Calls Try.prog 31 #[.pointer (some ⟨g, 0, none⟩)] W fun e W' => e = .returned (.string ⟨#[53, 120]⟩) ∧ Fr (fun b => False) W W' := by
  obtain ⟨v, hI, hR⟩ := hW
  exact wtext_calls W B g v [53, 120] 0 0 hI hR (by decide) (by decide) (by decide)
theorem crcEx (W : World) : Calls Try.prog 33 #[.string ⟨#[49, 50, 51, 52, 53, 54, 55, 56, 57]⟩] W fun e W' => e = .returned (.int .i64 3421780262) ∧ Drawn0 W W' := Pb.bits_Crc.calls 100 _ _ W (by kernel_rfl)
theorem adlEx (W : World) : Calls Try.prog 15 #[.string ⟨#[87, 105, 107, 105, 112, 101, 100, 105, 97]⟩] W fun e W' => e = .returned (.int .i64 300286872) ∧ Drawn0 W W' := Pb.bits_Adler.calls 100 _ _ W (by kernel_rfl)

/-- The state of awake's walk: the reader, the writer, the frame. -/
structure AwSt (W w : World) (d : ByteArray) (h n : Nat) (xs : List Int) (h' n' : Nat) : Prop where
  rd : IsR w W.heap.size d h n
  wr : WB w W.heap.size (W.heap.size + 1) xs h' n'
  fr : Fr (fun b => W.heap.size ≤ b) W w
  sz : W.heap.size ≤ w.heap.size
theorem AwSt.byR {W w w' : World} {d d1 : ByteArray} {h n h1 n1 : Nat} {xs : List Int} {h' n' : Nat} (s : AwSt W w d h n xs h' n') (hr : IsR w' W.heap.size d1 h1 n1) (hf : Fr (· = W.heap.size) w w') : AwSt W w' d1 h1 n1 xs h' n' := by
  obtain ⟨v, hI, hR⟩ := s.wr
  refine ⟨hr, ⟨v, hf.blk hI (by omega), hf.own hR (fun k hk e => ?_)⟩, s.fr.then_ (hf.mono (fun k _ e => by omega)), Nat.le_trans s.sz hf.size⟩
  subst e
  exact row_ne hR s.rd (by decide) hk.symm
theorem AwSt.byW {W w w' : World} {d : ByteArray} {h n : Nat} {xs xs1 : List Int} {h' n' h1 n1 : Nat} (s : AwSt W w d h n xs h' n') (hr : IsR w' W.heap.size d h n) (hw : WB w' W.heap.size (W.heap.size + 1) xs1 h1 n1) (hf : Fr (fun b => W.heap.size ≤ b) w w') : AwSt W w' d h n xs1 h1 n1 :=
  ⟨hr, hw, s.fr.then_ hf, Nat.le_trans s.sz hf.size⟩
theorem AwSt.byN {W w w' : World} {d : ByteArray} {h n : Nat} {xs : List Int} {h' n' : Nat} (s : AwSt W w d h n xs h' n') (hf : Fr (fun _ => False) w w') : AwSt W w' d h n xs h' n' := by
  obtain ⟨v, hI, hR⟩ := s.wr
  exact ⟨hf.blk s.rd (fun e => e), ⟨v, hf.blk hI (fun e => e), hf.own hR (fun _ _ e => e)⟩, s.fr.then_ (hf.mono (fun _ _ e => e.elim)), Nat.le_trans s.sz hf.size⟩
theorem aw0 (W : World) : AwSt W ((W.alloc (.cells #[.string ⟨#[181, 1]⟩, .int .i64 0, .int .i64 0] 75)).alloc (.cells #[.slice none 0 0, .int .i64 0, .int .i64 0] 77)) ⟨#[181, 1]⟩ 0 0 [] 0 0 := by
  have hs : (W.alloc (.cells #[.string ⟨#[181, 1]⟩, .int .i64 0, .int .i64 0] 75)).heap.size = W.heap.size + 1 := by simp
  refine ⟨?_, ⟨.slice none 0 0, ?_, World.ownsRow_nil _ _ _ _⟩, ((Fr.refl _ W).alloc _).alloc _, by simp; omega⟩
  · exact (heap_alloc_old _ _ (by rw [hs]; omega)).trans (heap_alloc_new W _)
  · unfold IsW
    rw [← hs]
    exact heap_alloc_new _ _
theorem newEx (W : World) : Calls Try.prog 25 #[] (W.alloc (.cells #[.string ⟨#[181, 1]⟩, .int .i64 0, .int .i64 0] 75)) fun e W' => e = .returned (.pointer (some ⟨W.heap.size + 1, 0, none⟩)) ∧ AwSt W W' ⟨#[181, 1]⟩ 0 0 [] 0 0 := by
  refine (new_calls _).mono ?_
  rintro e w' ⟨rfl, rfl⟩
  exact ⟨by simp, aw0 W⟩

end Go.Proofs.Ytpldapjcojjicaa.B
namespace Go.Proofs.Ytpldapjcojjicaa.Pb
open Go.RowKit Go.Proofs.YtpldapjcojjicaaW.PrintWords Go.Proofs.YtpldapjcojjicaaW.PrintLast Go.Proofs.Ytpldapjcojjicaa.B
/-- What awake tells: true. -/
def vitrinelaw01_awake.f : Option Bool := some true
set_option maxHeartbeats 800000 in
set_option maxRecDepth 100000 in
theorem vitrinelaw01_awake.calls (r : Bool) (W : World) (h : vitrinelaw01_awake.f = some r) : Calls Try.prog 17 #[] W fun e w' => e = .returned (.bool r) ∧ Below W.heap.size W w' := by
  obtain rfl : true = r := Option.some.inj h
  clear h
  go_enter Try.func17, Try.ntmps17
  go_wp2_with (first | (go_at_call 18; refine (read_calls W _).mono ?_; rintro e w1 ⟨rfl, rfl⟩) | (go_at_call 25; refine (newEx W).mono ?_; rintro e w1 ⟨rfl, HS⟩; replace HS := Aside0.mk HS) | (go_at_call 21; (with_reducible have hq := rb1 HS.out.rd); refine hq.mono ?_; clear hq; rintro e w1 ⟨rfl, hr1, hr2⟩; replace HS := Aside0.mk (HS.out.byR hr1 hr2); clear hr1 hr2) | (go_at_call 21; (with_reducible have hq := rb2 HS.out.rd); refine hq.mono ?_; clear hq; rintro e w1 ⟨rfl, hr1, hr2⟩; replace HS := Aside0.mk (HS.out.byR hr1 hr2); clear hr1 hr2) | (go_at_call 21; (with_reducible have hq := rb3 HS.out.rd); refine hq.mono ?_; clear hq; rintro e w1 ⟨rfl, hr1, hr2⟩; replace HS := Aside0.mk (HS.out.byR hr1 hr2); clear hr1 hr2) | (go_at_call 19; (with_reducible have hq := rb4 HS.out.rd); refine hq.mono ?_; clear hq; rintro e w1 ⟨rfl, hr1, hr2⟩; replace HS := Aside0.mk (HS.out.byR hr1 hr2); clear hr1 hr2) | (go_at_call 29; (with_reducible have hq := wb1 HS.out.wr HS.out.sz (by omega)); refine hq.mono ?_; clear hq; rintro e w1 ⟨rfl, hr1, hr2, hr3⟩; replace HS := Aside0.mk (HS.out.byW (hr3 _ _ _ HS.out.rd (by decide) (by omega)) hr1 hr2); clear hr1 hr2 hr3) | (go_at_call 29; (with_reducible have hq := wb2 HS.out.wr HS.out.sz (by omega)); refine hq.mono ?_; clear hq; rintro e w1 ⟨rfl, hr1, hr2, hr3⟩; replace HS := Aside0.mk (HS.out.byW (hr3 _ _ _ HS.out.rd (by decide) (by omega)) hr1 hr2); clear hr1 hr2 hr3) | (go_at_call 26; (with_reducible have hq := wb3 HS.out.wr HS.out.sz (by omega)); refine hq.mono ?_; clear hq; rintro e w1 ⟨rfl, hr1, hr2, hr3⟩; replace HS := Aside0.mk (HS.out.byW (hr3 _ _ _ HS.out.rd (by decide) (by omega)) hr1 hr2); clear hr1 hr2 hr3) | (go_at_call 33; refine (crcEx _).mono ?_; rintro e w1 ⟨rfl, hd⟩; have hf := Fr.of_drawn hd; replace HS := Aside0.mk (HS.out.byN hf); clear hd hf) | (go_at_call 15; refine (adlEx _).mono ?_; rintro e w1 ⟨rfl, hd⟩; have hf := Fr.of_drawn hd; replace HS := Aside0.mk (HS.out.byN hf); clear hd hf) | (go_at_call 31; (with_reducible have hq := wb4 HS.out.wr); refine hq.mono ?_; clear hq; rintro e w1 ⟨rfl, hf⟩; replace HS := Aside0.mk (HS.out.byN hf); clear hf))
  go_ret
  exact ⟨rfl, HS.out.fr.to_below (fun k hk _ => by omega) (Nat.le_refl _)⟩
end Go.Proofs.Ytpldapjcojjicaa.Pb
