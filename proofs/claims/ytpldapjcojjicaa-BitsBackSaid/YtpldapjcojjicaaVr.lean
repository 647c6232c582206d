/- Layer 1 (bits): the document's writer: its contracts. -/
import Derived.Test.YtpldapjcojjicaaOne
namespace Go.Proofs.Ytpldapjcojjicaa.B
open Go.RowKit Go.Proofs.YtpldapjcojjicaaW.PrintWords Go.Proofs.YtpldapjcojjicaaW.PrintLast Go.Proofs.YtpldapjcojjicaaW.PrintMore
set_option linter.unusedVariables false
set_option linter.unusedSimpArgs false

/-- The document's writer at block g. -/
def IsV (W : World) (g : Nat) (v : Value) (N : Int) : Prop := W.heap[g]? = some (.cells #[v, .int .i64 N] 45 (0, 0))
/-- What is known of it behind a call on it. -/
structure VPost (W W' : World) (B g : Nat) (v v' : Value) (ys' : List Int) (h' n' : Nat) : Prop where
  st : IsV W' g v' ((8 * ys'.length + n' : Nat) : Int)
  row : Row W' B v' (wpadF ys' h' n')
  fr : Fr (fun b => b = g ∨ v.ownBlock = some b) W W'
  at_ : v'.ownBlock = v.ownBlock ∨ ∃ b, v'.ownBlock = some b ∧ W.heap.size ≤ b
theorem vrow_ne {W : World} {B g : Nat} {v v' : Value} {N : Int} {xs : List Int} (hR : Row W B v xs) (hI : IsV W g v' N) : some g ≠ v.ownBlock := row_ne hR hI (by decide)

set_option maxHeartbeats 400000 in
set_option maxRecDepth 100000 in
theorem vbytes_calls (W : World) (B g : Nat) (v : Value) (ys : List Int) (h n : Nat) (s : ByteArray) (hI : IsV W g v ((8 * ys.length + n : Nat) : Int)) (hR : Row W B v (wpadF ys h n)) (hB : B ≤ W.heap.size) (hx : ys.length ≤ 1000000000000) (hs : s.size ≤ 1000000000000) :
    Calls Try.prog 28 #[.pointer (some ⟨g, 0, none⟩), .string s] W fun e W' => e = .returned (.tuple #[]) ∧ ∃ v', VPost W W' B g v v' (wpadF ys h n ++ bytesOf s) 0 0 := by
  have hlen : (wpadF ys h n).length ≤ ys.length + 1 := by unfold wpadF; split <;> simp
  have hsl : (bytesOf s).length = s.size := bytesOf_length s
  generalize wpadF ys h n = xs at *
  obtain ⟨zs, hzs⟩ : ∃ zs, xs ++ bytesOf s = zs := ⟨_, rfl⟩
  have hzl := Aside0.mk (show zs.length = xs.length + s.size by rw [← hzs, List.length_append, hsl])
  rw [hzs]
  have hzs := Aside0.mk hzs
  have hsl := Aside0.mk hsl
  obtain ⟨A1, C1, rfl⟩ := own_slice hR
  have hI := Aside0.mk hI
  have hR := Aside0.mk hR
  have c0 : W.cell? ⟨g, 0, none⟩ = some (.slice A1 xs.length C1) := (blk_cell hI.out 0).trans rfl
  have f0 := blk_frozen hI.out 0
  go_enter Try.func28, Try.ntmps28
  go_wp2_with (first | ((with_reducible refine gate_builtin (b := .append) (xs := #[.tmp 8, .tmp 9]) rfl ?_); (try (refine gate_guard (by rfl) ?_; dsimp only)); at_builtin; refine print_append_str_at B rfl (.tmp 8) (.tmp 9) 43 9 5 rfl Try.underlying43 Try.underlying9 info5 (.slice A1 xs.length C1) xs s rfl rfl hR.out hB ?_ ?_; (· omega); intro v2 w2 hO2 hg2 hat2; rw [hzs.out] at hO2; obtain ⟨A2, C2, rfl⟩ := own_slice hO2; replace hO2 := Aside0.mk hO2; replace hg2 := Aside0.mk hg2; replace hat2 := Aside0.mk hat2; have hI2 : Aside0 (IsV w2 g (.slice A1 xs.length C1) ((8 * ys.length + n : Nat) : Int)) := ⟨(hg2.out.block g (blk_lt hI.out) (vrow_ne hR.out hI.out)).trans hI.out⟩; have c2 : w2.cell? ⟨g, 0, none⟩ = some (.slice A1 xs.length C1) := (blk_cell hI2.out 0).trans rfl; have f2 := blk_frozen hI2.out 0; have c3 : (w2.setCell ⟨g, 0, none⟩ (.slice A2 zs.length C2)).cell? ⟨g, 0, none⟩ = some (.slice A2 zs.length C2) := (blk_cell (blk_set hI2.out 0 (.slice A2 zs.length C2)) 0).trans rfl; have c4 : (w2.setCell ⟨g, 0, none⟩ (.slice A2 zs.length C2)).cell? ⟨g, 1, none⟩ = some (.int .i64 ((8 * ys.length + n : Nat) : Int)) := (blk_cell (blk_set hI2.out 0 (.slice A2 zs.length C2)) 1).trans rfl; have hzb : zs.length ≤ 3000000000000 := (by have := hzl.out; omega); have f3 := blk_frozen (blk_set hI2.out 0 (.slice A2 zs.length C2)) 1; clear c0 f0))
  go_end0
  have hw := vrow_ne hR.out hI.out
  have hz := blk_set (blk_set hI2.out 0 (.slice A2 zs.length C2)) 1 (.int .i64 ((8 * zs.length + 0 : Nat) : Int))
  have e : ((8 * zs.length + 0 : Nat) : Int) = 8 * (zs.length : Int) := by omega
  refine ⟨rfl, .slice A2 zs.length C2, ?_, ?_, ?_, ?_⟩
  · unfold IsV
    rw [e] at hz ⊢
    exact hz
  · unfold wpadF
    rw [if_pos rfl]
    exact own_setCell (own_setCell hO2.out (vrow_ne hO2.out hI2.out) _) (vrow_ne hO2.out hI2.out) _
  · exact (((Fr.refl _ W).grown hg2.out (fun b hb hlt => .inr hb)).set_ _ _ (fun _ => .inl rfl)).set_ _ _ (fun _ => .inl rfl)
  · exact hat2.out

set_option maxHeartbeats 400000 in
theorem vtext_calls (W : World) (B g : Nat) (v : Value) (xs : List Int) (N : Int) (hI : IsV W g v N) (hR : Row W B v xs) :
    Calls Try.prog 32 #[.pointer (some ⟨g, 0, none⟩)] W fun e W' => e = .returned (.string (strOfNums xs)) ∧ W' = W := by
  obtain ⟨A0, C0, rfl⟩ := own_slice hR
  have c0 : W.cell? ⟨g, 0, none⟩ = some (.slice A0 xs.length C0) := (blk_cell hI 0).trans rfl
  have f0 := blk_frozen hI 0
  have hcv := own_string (P := Try.prog) Try.underlying43 Try.underlying5 Try.underlying9 hR
  clear hI hR
  go_enter Try.func32, Try.ntmps32
  go_wp2
  go_ret
  exact ⟨rfl, rfl⟩
theorem vnew (W : World) (g : Nat) (hI : W.heap[g]? = some (.cells #[.slice none 0 0, .int .i64 0] 45 (0, 0))) : IsV W g (.slice none 0 0) 0 := hI
end Go.Proofs.Ytpldapjcojjicaa.B
