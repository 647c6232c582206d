/- Layer 2 (huff): slices.Clone at coins and pairs. -/
import Derived.Test.YtpldapjcojjicaaSp
import Derived.OwnWalk
import Derived.WalkSpells
namespace Go.Proofs.Ytpldapjcojjicaa.B
open Go.RowKit Go.Proofs.YtpldapjcojjicaaW.PrintWords Go.Proofs.YtpldapjcojjicaaW.PrintLast Go.Proofs.YtpldapjcojjicaaW.PrintMore
set_option linter.unusedVariables false
set_option linter.unusedSimpArgs false
theorem info87 : (Try.prog.info? 87).map (fun i => (i.zero, i.size, i.bytes)) = some (some (.agg #[.int .i64 0, .int .i64 0, .slice none 0 0]), 3, 40) := by kernel_rfl
theorem flat_one (its : List It) : ∀ u ∈ flat its, u.oneCell' = true := fun u hu => by
  obtain ⟨x, _, hx⟩ := List.mem_flatMap.1 hu
  exact cells_one x u hx
set_option maxHeartbeats 1000000 in
set_option maxRecDepth 100000 in
theorem cloneI_calls (W : World) (g cap : Nat) (its : List It) (hL : Lies W g 0 its) (hg : g < W.heap.size) (hl : its.length ≤ 1000000) :
    Calls Try.prog 56 #[.slice (some ⟨g, 0, none⟩) its.length cap] W fun e W' => ∃ v, e = .returned v ∧ RI W' W.heap.size v its ∧ Below W.heap.size W W' := by
  obtain ⟨i0, hi, hz⟩ := Option.map_eq_some_iff.1 info87
  simp only [Prod.mk.injEq] at hz
  obtain ⟨hz0, hz1, hz2⟩ := hz
  have hu := Try.underlying85
  have hnil : (binOp .eql 85 (.slice (some ⟨g, 0, none⟩) its.length cap) (.slice none 0 0)).run Try.prog W = .ok (.bool false) W := Lib.run_eql_slice_nil W 85 87 (some ⟨g, 0, none⟩) its.length cap 0 0 hu
  have hown : (W.alloc (.cells #[] 87)).ownsRow W.heap.size 87 3 (.slice (some ⟨W.heap.size, 0, none⟩) 0 0) 0 [] :=
    ⟨rfl, .inr ⟨W.heap.size, 0, #[], rfl, Nat.le_refl _, heap_alloc_new W _, Nat.le_refl _, Nat.zero_le _, rfl, rfl⟩⟩
  have hnews : ∀ j u, (flat its)[j]? = some u → (W.alloc (.cells #[] 87)).cell? ((⟨g, 0, none⟩ : Addr).add j) = some u := fun j u h => by
    have hj : j < its.length * 3 := by
      rcases Nat.lt_or_ge j (its.length * 3) with c | c
      · exact c
      · rw [List.getElem?_eq_none (by rw [flat_len]; exact c)] at h; cases h
    have h1 := hL j hj
    rw [h] at h1
    have h2 : (W.alloc (.cells #[] 87)).cell? ⟨g, 0 + j, none⟩ = W.cell? ⟨g, 0 + j, none⟩ := by
      simp only [World.cell?, heap_alloc_old W (.cells #[] 87) hg]
    rw [← h1, ← h2]
    unfold Addr.add
    by_cases hz : j = 0
    · subst hz; simp
    · simp [hz]
  have hbel : Aside0 (Below W.heap.size W (W.alloc (.cells #[] 87))) := ⟨(Below.refl _ W).alloc (Nat.le_refl _) _⟩
  have hL := Aside0.mk hL
  have hown := Aside0.mk hown
  have hnews := Aside0.mk hnews
  go_enter Try.func56, Try.ntmps56
  go_wp2_with (at_builtin; refine wpList_append_own _ rfl (.tmp 5) (.tmp 6) 85 rfl W.heap.size 87 i0 (.agg #[.int .i64 0, .int .i64 0, .slice none 0 0]) 3 40 Try.underlying85 hi hz0 hz1 hz2 rfl (by decide) (.slice (some ⟨W.heap.size, 0, none⟩) 0 0) 0 [] rfl hown.out ⟨g, 0, none⟩ its.length cap (flat its) rfl (flat_len its) hnews.out (flat_one its) (by unfold maxLen; omega) (by omega) (by simp) ?_; intro v1 w1 hown1 hgrow1 _; replace hown1 := Aside0.mk hown1; replace hgrow1 := Aside0.mk hgrow1)
  go_ret
  refine ⟨v1, rfl, ?_, ?_⟩
  · have := hown1.out
    rw [Nat.zero_add, List.nil_append] at this
    exact this
  · exact hbel.out.grown hgrow1.out (by simp) (fun k e => by simp [Value.ownBlock] at e; omega)
end Go.Proofs.Ytpldapjcojjicaa.B
