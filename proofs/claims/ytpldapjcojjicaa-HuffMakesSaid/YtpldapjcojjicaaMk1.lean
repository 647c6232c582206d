/- Layer 2 (huff): Clone at ints, and the comparison that Make hands to the sort. -/
import Derived.Test.YtpldapjcojjicaaCo
import Derived.Test.YtpldapjcojjicaaCl
import Derived.OwnWalk
namespace Go.Proofs.Ytpldapjcojjicaa.B
open Go.RowKit Go.Proofs.YtpldapjcojjicaaW.PrintWords Go.Proofs.YtpldapjcojjicaaW.PrintLast Go.Proofs.YtpldapjcojjicaaW.PrintMore
set_option linter.unusedVariables false
set_option linter.unusedSimpArgs false
theorem nums_one (l : List Int) : ∀ u ∈ nums .i64 l, u.oneCell' = true := fun u hu => by
  obtain ⟨x, _, rfl⟩ := List.mem_map.1 hu
  rfl
set_option maxHeartbeats 1000000 in
set_option maxRecDepth 100000 in
theorem clone1_calls (W : World) (A : Option Addr) (c : Nat) (l : List Int) (hC : Kd.C (Kd.int .i64) W A l.length l) (hl : l.length ≤ 1000000) :
    Calls Try.prog 60 #[.slice A l.length c] W fun e W' => ∃ v, e = .returned v ∧ W'.ownsRow W.heap.size 3 1 v l.length (nums .i64 l) ∧ Below W.heap.size W W' := by
  cases A with
  | none =>
    have h0 : l = [] := by
      cases l with
      | nil => rfl
      | cons x l =>
        obtain ⟨ad, e, _⟩ := hC.2.2 (by simp)
        cases e
    subst h0
    have hnil : (binOp .eql 51 (.slice none ([] : List Int).length c) (.slice none 0 0)).run Try.prog W = .ok (.bool true) W := Lib.run_eql_slice_nil W 51 3 none _ c 0 0 Try.underlying51
    simp only [List.length_nil] at hnil ⊢
    clear hC hl
    go_enter Try.func60, Try.ntmps60
    go_wp2
    go_ret
    exact ⟨_, rfl, World.ownsRow_nil _ _ _ _, Below.refl _ _⟩
  | some ad =>
    obtain ⟨i0, hi, hz⟩ := Option.map_eq_some_iff.1 info3c
    simp only [Prod.mk.injEq] at hz
    obtain ⟨hz0, hz1, hz2⟩ := hz
    have hu := Try.underlying51
    have hnil : (binOp .eql 51 (.slice (some ad) l.length c) (.slice none 0 0)).run Try.prog W = .ok (.bool false) W := Lib.run_eql_slice_nil W 51 3 (some ad) l.length c 0 0 hu
    have hown : (W.alloc (.cells #[] 3)).ownsRow W.heap.size 3 1 (.slice (some ⟨W.heap.size, 0, none⟩) 0 0) 0 [] :=
      ⟨rfl, .inr ⟨W.heap.size, 0, #[], rfl, Nat.le_refl _, heap_alloc_new W _, Nat.le_refl _, Nat.zero_le _, rfl, rfl⟩⟩
    have hbel : Aside0 (Below W.heap.size W (W.alloc (.cells #[] 3))) := ⟨(Below.refl _ W).alloc (Nat.le_refl _) _⟩
    have hnews : ∀ j u, (nums .i64 l)[j]? = some u → (W.alloc (.cells #[] 3)).cell? (ad.add j) = some u := fun j u h => by
      have hj : j < l.length := by
        rcases Nat.lt_or_ge j l.length with q | q
        · exact q
        · rw [List.getElem?_eq_none (by rw [nums_length]; exact q)] at h; cases h
      obtain ⟨ad', e, hx⟩ := Kd.at_int hC (j : Int) (by omega) (by omega)
      cases e
      rw [Int.toNat_natCast] at hx
      have hv : u = .int .i64 (rd l (j : Int)) := by
        unfold nums at h
        rw [List.getElem?_map, List.getElem?_eq_getElem hj] at h
        have h := Option.some.inj h
        rw [← h]
        unfold rd
        rw [Int.toNat_natCast, List.getD_eq_getElem?_getD, List.getElem?_eq_getElem hj]
        rfl
      rw [hv, ← hx]
      exact hbel.out.cell (World.block_lt_of_cell? W _ hx)
    have hown := Aside0.mk hown
    have hnews := Aside0.mk hnews
    clear hC
    go_enter Try.func60, Try.ntmps60
    go_wp2_with (at_builtin; refine wpList_append_own _ rfl (.tmp 5) (.tmp 6) 51 rfl W.heap.size 3 i0 (.int .i64 0) 1 8 Try.underlying51 hi hz0 hz1 hz2 rfl (by decide) (.slice (some ⟨W.heap.size, 0, none⟩) 0 0) 0 [] rfl hown.out ad l.length c (nums .i64 l) rfl (by rw [nums_length]; omega) hnews.out (nums_one l) (by unfold maxLen; omega) (by omega) (by simp) ?_; intro v1 w1 hown1 hgrow1 _; replace hown1 := Aside0.mk hown1; replace hgrow1 := Aside0.mk hgrow1)
    go_ret
    refine ⟨v1, rfl, ?_, ?_⟩
    · have := hown1.out
      rw [Nat.zero_add, List.nil_append] at this
      exact this
    · exact hbel.out.grown hgrow1.out (by simp) (fun k e => by simp [Value.ownBlock] at e; omega)
end Go.Proofs.Ytpldapjcojjicaa.B
