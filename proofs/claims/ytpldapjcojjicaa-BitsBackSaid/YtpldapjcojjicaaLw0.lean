/- BitsWrites, BitsBack: both writers side by side: their contracts. -/
import Derived.Test.YtpldapjcojjicaaVb
import Derived.Test.YtpldapjcojjicaaAw
import Derived.Test.YtpldapjcojjicaaTx
namespace Go.Proofs.Ytpldapjcojjicaa.B
open Go.RowKit Go.Proofs.YtpldapjcojjicaaW.PrintWords Go.Proofs.YtpldapjcojjicaaW.PrintLast Go.Proofs.YtpldapjcojjicaaW.PrintMore
set_option linter.unusedVariables false
set_option linter.unusedSimpArgs false

theorem wbitsF_at (ys : List Int) (h n k : Nat) (x : Int) (hk : k ≤ 24) : wbitsF ys h n x (k : Int) = wAt ys h n x k := by
  unfold wbitsF wAt
  rw [if_neg (by omega), Int.toNat_natCast]
theorem wbitsF_ok (ys : List Int) (h n : Nat) (x k : Int) (hh : h < 2 ^ n) (hn : n ≤ 7) :
    (wbitsF ys h n x k).2.1 < 2 ^ (wbitsF ys h n x k).2.2 ∧ (wbitsF ys h n x k).2.2 ≤ 7 ∧ 8 * (wbitsF ys h n x k).1.length + (wbitsF ys h n x k).2.2 ≤ 8 * ys.length + n + 24 := by
  by_cases h0 : k < 0 ∨ 24 < k
  · unfold wbitsF
    rw [if_pos h0]
    exact ⟨hh, hn, Nat.le_add_right _ _⟩
  · obtain ⟨q, rfl⟩ : ∃ q : Nat, k = q := ⟨k.toNat, by omega⟩
    rw [wbitsF_at ys h n q x (by omega)]
    have := wAt_ok ys h n x q hh
    refine ⟨this.1, this.2.1, ?_⟩
    rw [this.2.2]
    omega

set_option maxHeartbeats 400000 in
theorem vbits_no (W : World) (g : Nat) (x k : Int) (hk : k < 0 ∨ 24 < k) :
    Calls Try.prog 30 #[.pointer (some ⟨g, 0, none⟩), .int .i64 x, .int .i64 k] W fun e W' => e = .returned (.tuple #[]) ∧ W' = W := by
  by_cases h0 : k < 0
  · have k0 : decide (k < 0) = true := decide_eq_true h0
    clear hk
    go_enter Try.func30, Try.ntmps30
    go_wp2
    first | go_end0 | ((try simp only [Exit.inBlock, Exit.then]); refine bodyPost_ret (results_none rfl _ _ _) rfl ?_)
    exact ⟨rfl, rfl⟩
  · have k0 : decide (k < 0) = false := decide_eq_false h0
    have k1 : decide (24 < k) = true := decide_eq_true (by omega)
    clear hk
    go_enter Try.func30, Try.ntmps30
    go_wp2
    first | go_end0 | ((try simp only [Exit.inBlock, Exit.then]); refine bodyPost_ret (results_none rfl _ _ _) rfl ?_)
    exact ⟨rfl, rfl⟩
theorem vbits_calls (W : World) (B g : Nat) (v : Value) (ys : List Int) (h n : Nat) (x k : Int) (hI : IsV W g v ((8 * ys.length + n : Nat) : Int)) (hR : Row W B v (wpadF ys h n)) (hB : B ≤ W.heap.size) (hn : n ≤ 7) (hh : h < 2 ^ n) (hx : ys.length ≤ 1000000000000) :
    Calls Try.prog 30 #[.pointer (some ⟨g, 0, none⟩), .int .i64 x, .int .i64 k] W fun e W' => e = .returned (.tuple #[]) ∧ ∃ v', VPost W W' B g v v' (wbitsF ys h n x k).1 (wbitsF ys h n x k).2.1 (wbitsF ys h n x k).2.2 := by
  by_cases hk : k < 0 ∨ 24 < k
  · unfold wbitsF
    rw [if_pos hk]
    refine (vbits_no W g x k hk).mono ?_
    rintro e w' ⟨rfl, rfl⟩
    exact ⟨rfl, v, hI, hR, Fr.refl _ _, .inl rfl⟩
  · obtain ⟨q, rfl⟩ : ∃ q : Nat, k = q := ⟨k.toNat, by omega⟩
    rw [wbitsF_at ys h n q x (by omega)]
    exact vbits_yes W B g v ys h n q x hI hR hB hn hh (by omega) hx

/-- Both writers, made since W. -/
structure BW (W w : World) (v u : Value) (ys : List Int) (h n : Nat) (zs : List Int) (h2 n2 : Nat) : Prop where
  w1 : IsW w W.heap.size v h n
  r1 : Row w W.heap.size v ys
  w2 : IsV w (W.heap.size + 1) u ((8 * zs.length + n2 : Nat) : Int)
  r2 : Row w W.heap.size u (wpadF zs h2 n2)
  ap : ∀ b, v.ownBlock = some b → u.ownBlock ≠ some b
  bel : Below W.heap.size W w
namespace BW
variable {W w w' : World} {v u : Value} {ys zs : List Int} {h n h2 n2 : Nat}
theorem byN (s : BW W w v u ys h n zs h2 n2) (hf : Fr (fun _ => False) w w') : BW W w' v u ys h n zs h2 n2 :=
  ⟨hf.blk s.w1 (fun e => e), hf.own s.r1 (fun _ _ e => e), hf.blk s.w2 (fun e => e), hf.own s.r2 (fun _ _ e => e), s.ap, s.bel.trans (hf.to_below (fun _ _ _ e => e) s.bel.size)⟩
theorem byW {v' : Value} {ys' : List Int} {h' n' : Nat} (s : BW W w v u ys h n zs h2 n2) (hP : WPost w w' W.heap.size W.heap.size v v' ys' h' n') : BW W w' v' u ys' h' n' zs h2 n2 := by
  refine ⟨hP.st, hP.row, hP.blk s.r1 s.w2 (by decide) (by omega), hP.fr.own s.r2 (fun k hk e => ?_), fun b hb hu => ?_, s.bel.trans ((hP.frB s.r1 (Nat.le_refl _)).to_below (fun k hk _ => by omega) s.bel.size)⟩
  · rcases e with rfl | e
    · exact row_ne s.r2 s.w1 (by decide) hk.symm
    · exact s.ap k e hk
  · rcases hP.at_ with h5 | ⟨b', h5, h6⟩
    · exact s.ap b (h5.symm.trans hb) hu
    · rw [h5] at hb
      cases hb
      exact Nat.not_lt.2 h6 (own_lt s.r2 _ hu)
theorem byV {u' : Value} {zs' : List Int} {h' n' : Nat} (s : BW W w v u ys h n zs h2 n2) (hP : VPost w w' W.heap.size (W.heap.size + 1) u u' zs' h' n') : BW W w' v u' ys h n zs' h' n' := by
  refine ⟨hP.fr.blk s.w1 (fun e => ?_), hP.fr.own s.r1 (fun k hk e => ?_), hP.st, hP.row, fun b hb hu => ?_, s.bel.trans ((hP.fr.mono (T := fun b => W.heap.size ≤ b) (fun k _ e => ?_)).to_below (fun k hk _ => by omega) s.bel.size)⟩
  · rcases e with e | e
    · omega
    · exact row_ne s.r2 s.w1 (by decide) e.symm
  · rcases e with rfl | e
    · exact row_ne s.r1 s.w2 (by decide) hk.symm
    · exact s.ap k hk e
  · rcases hP.at_ with h5 | ⟨b', h5, h6⟩
    · exact s.ap b hb (h5.symm.trans hu)
    · rw [h5] at hu
      cases hu
      exact Nat.not_lt.2 h6 (own_lt s.r1 _ hb)
  · rcases e with rfl | e
    · omega
    · exact own_base s.r2 k e
end BW
theorem bw_bits {W w : World} {v u : Value} {ys zs : List Int} {h n h2 n2 : Nat} (s : BW W w v u ys h n zs h2 n2) (hn : n ≤ 7) (hh : h < 2 ^ n) (hx : ys.length ≤ 1000000000000) (x k : Int) :
    Calls Try.prog 29 #[.pointer (some ⟨W.heap.size, 0, none⟩), .int .i64 x, .int .i64 k] w fun e w' => e = .returned (.tuple #[]) ∧ ∃ v', BW W w' v' u (wbitsF ys h n x k).1 (wbitsF ys h n x k).2.1 (wbitsF ys h n x k).2.2 zs h2 n2 := by
  refine (wbits_calls w W.heap.size W.heap.size v ys h n x k s.w1 s.r1 s.bel.size hn hh hx).mono ?_
  rintro e w' ⟨rfl, v', hP⟩
  exact ⟨rfl, v', s.byW hP⟩
theorem bv_bits {W w : World} {v u : Value} {ys zs : List Int} {h n h2 n2 : Nat} (s : BW W w v u ys h n zs h2 n2) (hn : n2 ≤ 7) (hh : h2 < 2 ^ n2) (hx : zs.length ≤ 1000000000000) (x k : Int) :
    Calls Try.prog 30 #[.pointer (some ⟨W.heap.size + 1, 0, none⟩), .int .i64 x, .int .i64 k] w fun e w' => e = .returned (.tuple #[]) ∧ ∃ u', BW W w' v u' ys h n (wbitsF zs h2 n2 x k).1 (wbitsF zs h2 n2 x k).2.1 (wbitsF zs h2 n2 x k).2.2 := by
  refine (vbits_calls w W.heap.size (W.heap.size + 1) u zs h2 n2 x k s.w2 s.r2 s.bel.size hn hh hx).mono ?_
  rintro e w' ⟨rfl, v', hP⟩
  exact ⟨rfl, v', s.byV hP⟩
theorem bw_bytes {W w : World} {v u : Value} {ys zs : List Int} {h n h2 n2 : Nat} (s : BW W w v u ys h n zs h2 n2) (hn : n ≤ 7) (hh : h < 2 ^ n) (hx : ys.length ≤ 1000000000000) (t : ByteArray) (ht : t.size ≤ 1000000000000) :
    Calls Try.prog 26 #[.pointer (some ⟨W.heap.size, 0, none⟩), .string t] w fun e w' => e = .returned (.tuple #[]) ∧ ∃ v', BW W w' v' u (wpadF ys h n ++ bytesOf t) 0 0 zs h2 n2 := by
  refine (wbytes_calls w W.heap.size W.heap.size v ys h n t s.w1 s.r1 s.bel.size hn hh hx ht).mono ?_
  rintro e w' ⟨rfl, v', hP⟩
  exact ⟨rfl, v', s.byW hP⟩
theorem bv_bytes {W w : World} {v u : Value} {ys zs : List Int} {h n h2 n2 : Nat} (s : BW W w v u ys h n zs h2 n2) (hx : zs.length ≤ 1000000000000) (t : ByteArray) (ht : t.size ≤ 1000000000000) :
    Calls Try.prog 28 #[.pointer (some ⟨W.heap.size + 1, 0, none⟩), .string t] w fun e w' => e = .returned (.tuple #[]) ∧ ∃ u', BW W w' v u' ys h n (wpadF zs h2 n2 ++ bytesOf t) 0 0 := by
  refine (vbytes_calls w W.heap.size (W.heap.size + 1) u zs h2 n2 t s.w2 s.r2 s.bel.size hx ht).mono ?_
  rintro e w' ⟨rfl, v', hP⟩
  exact ⟨rfl, v', s.byV hP⟩
theorem bw_text {W w : World} {v u : Value} {ys zs : List Int} {h n h2 n2 : Nat} (s : BW W w v u ys h n zs h2 n2) (hn : n ≤ 7) (hh : h < 2 ^ n) (hx : ys.length ≤ 1000000000000) :
    Calls Try.prog 31 #[.pointer (some ⟨W.heap.size, 0, none⟩)] w fun e w' => e = .returned (.string (wtextF ys h n)) ∧ BW W w' v u ys h n zs h2 n2 := by
  refine (wtext_calls w W.heap.size W.heap.size v ys h n s.w1 s.r1 hn hh hx).mono ?_
  rintro e w' ⟨rfl, hf⟩
  exact ⟨rfl, s.byN hf⟩
theorem bv_text {W w : World} {v u : Value} {ys zs : List Int} {h n h2 n2 : Nat} (s : BW W w v u ys h n zs h2 n2) :
    Calls Try.prog 32 #[.pointer (some ⟨W.heap.size + 1, 0, none⟩)] w fun e w' => e = .returned (.string (wtextF zs h2 n2)) ∧ BW W w' v u ys h n zs h2 n2 := by
  refine (vtext_calls w W.heap.size (W.heap.size + 1) u _ _ s.w2 s.r2).mono ?_
  rintro e w' ⟨rfl, rfl⟩
  exact ⟨rfl, s⟩
theorem bw_start (W : World) : BW W ((W.alloc (.cells #[.slice none 0 0, .int .i64 0, .int .i64 0] 77)).alloc (.cells #[.slice none 0 0, .int .i64 0] 45)) (.slice none 0 0) (.slice none 0 0) [] 0 0 [] 0 0 := by
  have hs : (W.alloc (.cells #[.slice none 0 0, .int .i64 0, .int .i64 0] 77)).heap.size = W.heap.size + 1 := by simp
  refine ⟨(heap_alloc_old _ _ (by rw [hs]; omega)).trans (heap_alloc_new W _), World.ownsRow_nil _ _ _ _, ?_, World.ownsRow_nil _ _ _ _, fun b hb => (by cases hb), ((Fr.refl (fun _ => False) W).alloc _).alloc _ |>.to_below (fun _ _ _ e => e) (Nat.le_refl _)⟩
  unfold IsV
  rw [← hs]
  exact heap_alloc_new _ _
end Go.Proofs.Ytpldapjcojjicaa.B
