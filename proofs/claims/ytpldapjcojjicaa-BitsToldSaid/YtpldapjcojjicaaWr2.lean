/- Layer 1 (bits): the writer's Bytes and Text: their contracts. -/
import Derived.Test.YtpldapjcojjicaaWr
import Derived.Test.YtpldapjcojjicaaAs
namespace Go.Proofs.Ytpldapjcojjicaa.B
open Go.RowKit Go.Proofs.YtpldapjcojjicaaW.PrintWords Go.Proofs.YtpldapjcojjicaaW.PrintLast
set_option linter.unusedVariables false
set_option linter.unusedSimpArgs false

/-- The row at a whole byte. -/
def wpadF (xs : List Int) (h n : Nat) : List Int := if n = 0 then xs else xs ++ [(h : Int)]
theorem wpad_eq (xs : List Int) (h n : Nat) (hn : n ≤ 7) (hh : h < 2 ^ n) : wbitsF xs h n 0 (((8 - n) % 8 : Nat) : Int) = (wpadF xs h n, 0, 0) := by
  have hle : h < 128 := Nat.lt_of_lt_of_le hh (two_pow_le (j := 7) hn)
  unfold wbitsF wpadF
  rw [if_neg (by omega), Int.toNat_natCast, Int.zero_emod]
  by_cases h0 : n = 0
  · subst h0
    rw [if_pos rfl]
    obtain rfl : h = 0 := by simpa using hh
    exact wflush_end (by decide)
  · rw [if_neg h0, show n + (8 - n) % 8 = 8 by omega]
    have e : h + (0 : Int).toNat * 2 ^ n = h := by simp
    rw [e, ← wflush_go (by decide), wflush_end (by decide), Nat.mod_eq_of_lt (by omega), Nat.div_eq_of_lt (by omega)]
/-- What a writer says. -/
def wtextF (xs : List Int) (h n : Nat) : ByteArray := strOfNums (wpadF xs h n)

set_option maxHeartbeats 400000 in
set_option maxRecDepth 100000 in
theorem wbytes_calls (W : World) (B g : Nat) (v : Value) (xs : List Int) (h n : Nat) (s : ByteArray) (hI : IsW W g v h n) (hR : Row W B v xs) (hB : B ≤ W.heap.size) (hn : n ≤ 7) (hh : h < 2 ^ n) (hx : xs.length ≤ 1000000000000) (hs : s.size ≤ 1000000000000) :
    Calls Try.prog 26 #[.pointer (some ⟨g, 0, none⟩), .string s] W fun e W' => e = .returned (.tuple #[]) ∧ ∃ v', WPost W W' B g v v' (wpadF xs h n ++ bytesOf s) 0 0 := by
  have hI0 := Aside0.mk hI
  have hR0 := Aside0.mk hR
  have c2 : W.cell? ⟨g, 2, none⟩ = some (.int .i64 (n : Int)) := (blk_cell hI 2).trans rfl
  have f2 := blk_frozen hI 2
  have hcall := wbits_calls W B g v xs h n 0 (((8 - n) % 8 : Nat) : Int) hI hR hB hn hh hx
  rw [wpad_eq xs h n hn hh] at hcall
  simp only [] at hcall
  have em : (((8 - n) % 8 : Nat) : Int) = (-(n : Int)) % 8 := by omega
  rw [em] at hcall
  have hcall := Aside0.mk hcall
  clear hI hR em
  have hlen : (wpadF xs h n).length + s.size ≤ 140737488355328 := by
    have : (wpadF xs h n).length ≤ xs.length + 1 := by unfold wpadF; split <;> simp
    omega
  go_enter Try.func26, Try.ntmps26
  go_wp2_with (first | (go_at_call 29; refine (hcall.out).mono ?_; rintro e w1 ⟨rfl, v1, hP0⟩; have hP := Aside0.mk hP0; clear hP0; obtain ⟨A1, C1, rfl⟩ := own_slice hP.out.row; have c0 : w1.cell? ⟨g, 0, none⟩ = some (.slice A1 (wpadF xs h n).length C1) := (blk_cell hP.out.st 0).trans rfl; have f0 := blk_frozen hP.out.st 0; have cA := c0; clear c2 f2) | (at_builtin; refine print_append_str_at B rfl (.tmp 18) (.tmp 19) 43 9 5 rfl Try.underlying43 Try.underlying9 info5 (.slice A1 (wpadF xs h n).length C1) (wpadF xs h n) s rfl rfl hP.out.row (Nat.le_trans hB hP.out.fr.size) ?_ ?_; (· exact hlen); intro v2 w2 hO2 hg2 hat2; obtain ⟨A2, C2, rfl⟩ := own_slice hO2; replace hO2 := Aside0.mk hO2; replace hg2 := Aside0.mk hg2; replace hat2 := Aside0.mk hat2; have hI2 : Aside0 (IsW w2 g (.slice A1 (wpadF xs h n).length C1) 0 0) := ⟨(hg2.out.block g (blk_lt hP.out.st) (wrow_ne hP.out.row hP.out.st)).trans hP.out.st⟩; have c2 : w2.cell? ⟨g, 0, none⟩ = some (.slice A1 (wpadF xs h n).length C1) := (blk_cell hI2.out 0).trans rfl; have f2 := blk_frozen hI2.out 0; clear c0 f0 cA))
  go_end0
  have hw := wrow_ne hP.out.row hP.out.st
  refine ⟨rfl, .slice A2 (wpadF xs h n ++ bytesOf s).length C2, ?_, ?_, ?_, ?_⟩
  · have hz := blk_set (show w2.heap[g]? = some (.cells #[.slice A1 (wpadF xs h n).length C1, .int .i64 ((0 : Nat) : Int), .int .i64 ((0 : Nat) : Int)] 77 (0, 0)) from hI2.out) 0 (.slice A2 (wpadF xs h n ++ bytesOf s).length C2)
    rw [List.length_append] at hz ⊢
    exact hz
  · exact own_setCell hO2.out (wrow_ne hO2.out hI2.out) _
  · refine (hP.out.fr.grown hg2.out (fun b hb hlt => ?_)).set_ _ _ (fun _ => .inl rfl)
    rcases hP.out.at_ with h5 | ⟨b', h5, h6⟩
    · exact .inr (h5.symm.trans hb)
    · rw [h5] at hb; cases hb; omega
  · rcases hat2.out with h5 | ⟨b, h5, h6⟩
    · rw [h5]; exact hP.out.at_
    · exact .inr ⟨b, h5, Nat.le_trans hP.out.fr.size h6⟩

theorem str_append (xs ys : List Int) : strOfNums (xs ++ ys) = strOfNums xs ++ strOfNums ys := by
  unfold strOfNums
  rw [List.map_append]
  apply ByteArray.ext
  simp

set_option maxHeartbeats 400000 in
set_option maxRecDepth 100000 in
theorem wtext_calls (W : World) (B g : Nat) (v : Value) (xs : List Int) (h n : Nat) (hI : IsW W g v h n) (hR : Row W B v xs) (hn : n ≤ 7) (hh : h < 2 ^ n) (hx : xs.length ≤ 1000000000000) :
    Calls Try.prog 31 #[.pointer (some ⟨g, 0, none⟩)] W fun e W' => e = .returned (.string (wtextF xs h n)) ∧ Fr (fun _ => False) W W' := by
  obtain ⟨A0, C0, rfl⟩ := own_slice hR
  have hle : h < 128 := Nat.lt_of_lt_of_le hh (two_pow_le (j := 7) hn)
  have hI0 := Aside0.mk hI
  have hR0 := Aside0.mk hR
  have c0 : W.cell? ⟨g, 0, none⟩ = some (.slice A0 xs.length C0) := (blk_cell hI 0).trans rfl
  have c1 : W.cell? ⟨g, 1, none⟩ = some (.int .i64 (h : Int)) := (blk_cell hI 1).trans rfl
  have c2 : W.cell? ⟨g, 2, none⟩ = some (.int .i64 (n : Int)) := (blk_cell hI 2).trans rfl
  have f0 := blk_frozen hI 0
  have f1 := blk_frozen hI 1
  have f2 := blk_frozen hI 2
  have hcv := own_string (P := Try.prog) Try.underlying43 Try.underlying5 Try.underlying9 hR
  clear hI hR
  unfold wtextF wpadF
  by_cases h0 : n = 0
  · rw [if_pos h0]
    have n0 : decide (0 < n) = false := decide_eq_false (by omega)
    have n0' : decide ((0 : Int) < (n : Int)) = false := decide_eq_false (by omega)
    go_enter Try.func31, Try.ntmps31
    go_wp2
    go_ret
    exact ⟨rfl, Fr.refl _ _⟩
  · rw [if_neg h0]
    have n0 : decide (0 < n) = true := decide_eq_true (by omega)
    have n0' : decide ((0 : Int) < (n : Int)) = true := decide_eq_true (by omega)
    have hz1 := strOfNums_size xs
    have hz2 := strOfNums_size [(h : Int)]
    rw [List.length_singleton] at hz2
    have hcv2 := run_convert_bytes_arg (P := Try.prog) (W.alloc (.cells #[.int .u8 (h : Int)] 5)) 43 5 Try.underlying43 Try.underlying5 W.heap.size 0 1 1 [(h : Int)] rfl (fun i hi => by
      obtain rfl : i = 0 := by omega
      exact (blk_cell (heap_alloc_new W _) 0).trans rfl) 9 Try.underlying9
    go_enter Try.func31, Try.ntmps31
    go_wp2
    go_ret
    rw [str_append]
    exact ⟨rfl, (Fr.refl _ _).alloc _⟩
end Go.Proofs.Ytpldapjcojjicaa.B
