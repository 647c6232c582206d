/- Layer 2 (huff): the document's Make: its contract. -/
import Derived.Test.YtpldapjcojjicaaMk5
import Derived.Test.YtpldapjcojjicaaQz2
namespace Go.Proofs.Ytpldapjcojjicaa.B
open Go.RowKit Go.Proofs.YtpldapjcojjicaaW.PrintWords Go.Proofs.YtpldapjcojjicaaW.PrintLast Go.Proofs.YtpldapjcojjicaaW.PrintMore Go.Proofs.Ytpldapjcojjicaa.Pl
set_option linter.unusedVariables false
set_option linter.unusedSimpArgs false

theorem own_cap {W : World} {base c n : Nat} {A : Option Addr} {xs : List Value} (h : W.ownsRow base 3 1 (.slice A n c) n xs) : n ≤ c := by
  rcases h.2 with ⟨h0, h1⟩ | ⟨g, cap, cur, hv, _, _, h1, _⟩
  · injection h0 with _ h2 h3
    omega
  · injection hv with _ _ h3
    omega
theorem refcodes (W : World) (A : Option Addr) (c : Nat) (l : List Int) (hC : Kd.C (Kd.int .i64) W A l.length l) (hc : l.length ≤ c) (r : List Int) (x : Int) (hres : codesF l = (r, x)) :
    Calls Try.prog 38 #[.slice A l.length c] W (CodPost W r x) := by
  refine (vitrineref02_Codes.calls _ A c l r x W hC hc (by rw [Pure.codes_is l (15 * (l.length + 2) + 1) (Nat.le_refl _), hres])).mono ?_
  rintro e W' ⟨v, h1, h2, h3⟩
  exact ⟨v, h1, Kd.own_of_R h2, h3⟩
theorem refmake_bad (W : World) (A : Option Addr) (c : Nat) (l : List Int) (hC : Kd.C (Kd.int .i64) W A l.length l) (hc : l.length ≤ c) (h : checkF l ≠ 0) :
    Calls Try.prog 43 #[.slice A l.length c] W fun e W' => e = .returned (.tuple #[.pointer none, .int .i64 (checkF l)]) ∧ Below W.heap.size W W' := by
  have hcod := Aside0.mk (refcodes W A c l hC hc [] (checkF l) (if_neg h))
  have hne : (checkF l != 0) = true := by simpa using h
  generalize checkF l = y at *
  clear h hC
  go_enter Try.func43, Try.ntmps43
  go_wp2_with (go_at_call 38; refine hcod.out.mono ?_; rintro e w1 ⟨v, rfl, hO, hB⟩; replace hO := Aside0.mk hO; replace hB := Aside0.mk hB)
  go_ret2
  exact ⟨rfl, hB.out⟩
/-- What is told of the document's Make's return. -/
def UmPost (W : World) (l : List Int) (e : Ending) (W' : World) : Prop :=
  ∃ T A1 c1 A2 c2, e = .returned (.tuple #[.pointer (some ⟨T, 0, none⟩), .int .i64 0]) ∧ IsU W' T A1 c1 A2 c2 l (codesL l) ∧ Below W.heap.size W W'
set_option maxHeartbeats 1000000 in
set_option maxRecDepth 100000 in
theorem refmake_good (W : World) (A : Option Addr) (c : Nat) (l : List Int) (hC : Kd.C (Kd.int .i64) W A l.length l) (hc : l.length ≤ c) (h : checkF l = 0) :
    Calls Try.prog 43 #[.slice A l.length c] W (UmPost W l) := by
  obtain ⟨h288, hbad⟩ := checkF_ok h
  have hcod := Aside0.mk (refcodes W A c l hC hc (codesL l) 0 (if_pos h))
  have hcl : (codesL l).length = l.length := by unfold codesL; rw [codesGo_len]; simp
  obtain ⟨C, hcd⟩ : ∃ C, codesL l = C := ⟨_, rfl⟩
  rw [hcd] at hcod hcl
  replace hcd := Aside0.mk hcd
  replace hC := Aside0.mk hC
  clear h
  go_enter Try.func43, Try.ntmps43
  go_wp2_with (first | (go_at_call 38; refine hcod.out.mono ?_; rintro e w1 ⟨v, rfl, hO, hB⟩; replace hO := Aside0.mk hO; replace hB := Aside0.mk hB; obtain ⟨A2, c2, rfl⟩ := own_slice hO.out) | (at_builtin; refine print_append_row W.heap.size rfl (.tmp 15) (.tmp 16) 51 3 .i64 8 rfl Try.underlying51 info3c (by decide) (.slice none 0 0) [] l A l.length c rfl rfl (World.ownsRow_nil _ _ _ _) (Kd.reads_of_C (Kd.C_below hC.out hB.out)) hB.out hB.out.size (by simp; omega) ?_; intro v1 w2 hO2 hB2 hG2 hat2; rw [List.nil_append] at hO2; obtain ⟨A1, c1, rfl⟩ := own_slice hO2; replace hO2 := Aside0.mk hO2; replace hB2 := Aside0.mk hB2; replace hG2 := Aside0.mk hG2))
  go_ret2
  have hO3 : w2.ownsRow W.heap.size 3 1 (.slice A2 C.length c2) C.length (nums .i64 C) := (((Fr.refl (fun _ => False) w1).grown hG2.out (fun k e _ => by cases e))).own hO.out (fun _ _ e => e)
  have hal : Below w2.heap.size w2 (w2.alloc (.cells #[.slice A1 l.length c1, .slice A2 l.length c2] 105)) := below_alloc (Below.refl _ _) _
  refine ⟨w2.heap.size, A1, c1, A2, c2, rfl, ⟨?_, Kd.C_below (own_C hO2.out (by omega)) hal, ?_, own_cap hO2.out⟩, hB2.out.trans (hal.mono hB2.out.size)⟩
  · rw [hcd.out]
    rw [hcl]
    exact heap_alloc_new _ _
  · rw [hcd.out]
    exact Kd.C_below (own_C hO3 (by omega)) hal
end Go.Proofs.Ytpldapjcojjicaa.B
