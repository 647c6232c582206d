/- Layer 4 (lz): the closure that notes places: its contract. -/
import Derived.Test.YtlhgdkaaomdipaaTok1
namespace Go.Proofs.Ytlhgdkaaomdipaa.Tok
open Go.RowKit Go.Maps Go.WideMaps Go.Proofs.YtlhgdkaaomdipaaW.PrintWords Go.Proofs.YtlhgdkaaomdipaaW.PrintLast
open Go.ChangeShapes (lits)
set_option linter.unusedVariables false
set_option linter.unusedSimpArgs false
set_option maxHeartbeats 400000 in
set_option maxRecDepth 100000 in
theorem note_calls (w : World) (base mb bd bs : Nat) (d : ByteArray) (p n : Nat)
    (hd : w.heap[bd]? = some (.cells #[.string d] 9 (0, 0))) (hs : w.heap[bs]? = some (.cells #[.map (some mb)] 36 (0, 0)))
    (hbd : bd < base) (hbs : bs < base) (hdm : bd ≠ mb) (hsm : bs ≠ mb) (hS : Seen w base mb d p) (hsz : d.size ≤ 20000) (hn : p + n ≤ d.size) (hb0 : base ≤ w.heap.size) :
    Calls Try.prog 14 #[.int .i64 p, .int .i64 n, .pointer (some ⟨bd, 0, none⟩), .pointer (some ⟨bs, 0, none⟩)] w fun e w' => e = .returned (.tuple #[]) ∧ Seen w' base mb d (p + n) ∧ NFr base mb w w' := by
  have HD := Aside0.mk hd
  have HS := Aside0.mk hs
  clear hd hs
  go_enter Try.func14, Try.ntmps14
  go_wp2
  go_loopw [6, 7] (fun v6 _ wr => ∃ j : Nat, p ≤ j ∧ j ≤ p + n ∧ v6 = .int .i64 j ∧ Aside0 (Seen wr base mb d j) ∧ Aside0 (NFr base mb w wr)) (fun v6 _ _ => p + n - (intOf v6).toNat)
  case atStart => exact ⟨p, Nat.le_refl _, by omega, rfl, ⟨hS⟩, ⟨NFr.refl _ _ _⟩⟩
  case round =>
    obtain ⟨j, hj1, hj2, rfl, HS1, HF⟩ := hrel
    have hd1 : wr.cell? ⟨bd, 0, none⟩ = some (.string d) := by
      have := (HF.out.block bd (blk_lt HD.out) hdm (.inl hbd)).trans HD.out
      exact (blk_cell this 0).trans rfl
    have hs1 : wr.cell? ⟨bs, 0, none⟩ = some (.map (some mb)) := by
      have := (HF.out.block bs (blk_lt HS.out) hsm (.inl hbs)).trans HS.out
      exact (blk_cell this 0).trans rfl
    by_cases h1 : j < p + n
    · by_cases h2 : j + 3 ≤ d.size
      · have hsl : ∀ W, (Instr.slice 9 (.string d) (some (.int .i64 (j : Int))) (some (.int .i64 ((j : Int) + 3))) none).run Try.prog W = .ok (.string (d.extract j (j + 3))) W := fun W => run_slice_string W 9 d _ _ _ _ Try.underlying9 (by omega) (by omega) (by omega)
        go_wp2
        have hw0 : wr.drew.heap = wr.heap := rfl
        obtain ⟨v, hlk, hoi, hback⟩ := Seen.look (w := wr.drew) HS1.out (by unfold maxLen; omega) (d.extract j (j + 3)) (by simp [maxLen]; omega)
        have hpl : Aside0 ((ints (posOf d j (d.extract j (j + 3)).data.toList)).length ≤ j) := ⟨by simpa [ints] using posOf_len d j (d.extract j (j + 3)).data.toList⟩
        have hbelS := HS1.out
        have hoi := Aside0.mk hoi
        have hback := Aside0.mk hback
        have hmblt : mb < wr.drew.heap.size := by
          obtain ⟨D, ⟨es, clock, hb, _⟩, _⟩ := HS1.out
          exact (Array.getElem?_eq_some_iff.1 hb).1
        have hble : base ≤ wr.drew.heap.size := Nat.le_trans hb0 HF.out.size
        have hbslt : bs < wr.drew.heap.size := by
          have := (HF.out.block bs (blk_lt HS.out) hsm (.inl hbs)).trans HS.out
          exact blk_lt this
        have hvb : ∀ k, k < base → some k ≠ v.ownBlock := fun k hk e => by
          have := own_base hoi.out.1 k e.symm
          omega
        have hmb0 : mb < base := by
          obtain ⟨D, ⟨es, clock, hb, F, h3, h4, h5, _⟩, _⟩ := HS1.out
          exact h5
        have hcB : ∀ W : World, W.heap[bs]? = wr.drew.heap[bs]? → W.cell? ⟨bs, 0, none⟩ = some (.map (some mb)) := fun W hW => by
          have := hW.trans ((HF.out.block bs (blk_lt HS.out) hsm (.inl hbs)).trans HS.out)
          exact (blk_cell this 0).trans rfl
        have hbel := Aside0.mk (Below.refl base wr.drew)
        have hwf1 : Aside0 (∀ z ∈ ints (posOf d j (d.extract j (j + 3)).data.toList) ++ [(j : Int)], (Lit.int .i64 z).wf = true) := ⟨fun z hz => by
          refine WalkArith.wf_i64 ?_
          rcases List.mem_append.1 hz with hz | hz
          · obtain ⟨q, hq, rfl⟩ := List.mem_map.1 hz
            have := (posOf_lt hq).1
            omega
          · simp at hz
            omega⟩
        refine start_ (n := 9) (S := fun w' => w'.cell? ⟨bs, 0, none⟩ = some (.map (some mb)) ∧ (Instr.lookup 36 (.map (some mb)) (.string (d.extract j (j + 3))) false).run Try.prog w' = .ok v w') (ds := [8]) #[false, false, false, false, false, false, false, false, false] (by kernel_rfl) rfl rfl ⟨hs1, hlk _ rfl⟩ (fun hHeld => ?_)
        refine pure_ (i := 1) (N := some 29) (v := ?_) (a' := ?_) #[false, true, false, false, false, false, false, false, false] rfl rfl (by kernel_rfl) (fun _ _ _ h => h) (Or.inl ⟨by rfl, ?_⟩) ?_ ?_
        rotate_left
        · intro w'
          go_simp
          with_reducible rfl
        rotate_left
        · simp only [Act.put, List.setIfInBounds_toArray, List.set_cons_zero, List.set_cons_succ, i64_w, i32_w]
          rfl
        refine pure_ (i := 3) (N := some 31) (v := ?_) (a' := ?_) #[false, true, false, true, false, false, false, false, false] rfl rfl (by kernel_rfl) (fun _ _ _ h => h) (Or.inl ⟨by rfl, ?_⟩) ?_ ?_
        rotate_left
        · intro w'
          go_simp
          with_reducible rfl
        rotate_left
        · simp only [Act.put, List.setIfInBounds_toArray, List.set_cons_zero, List.set_cons_succ, i64_w, i32_w]
          rfl
        refine pure_ (i := 5) (N := some 33) (v := ?_) (a' := ?_) #[false, true, false, true, false, true, false, false, false] rfl rfl (by kernel_rfl) (fun _ _ _ h => h) (Or.inl ⟨by rfl, ?_⟩) ?_ ?_
        rotate_left
        · intro w'
          go_simp
          with_reducible rfl
        rotate_left
        · simp only [Act.put, List.setIfInBounds_toArray, List.set_cons_zero, List.set_cons_succ, i64_w, i32_w]
          rfl
        refine take_ (i := 0) (N := some 28) (v := ?_) (a' := ?_) #[true, true, false, true, false, true, false, false, false] rfl rfl (by kernel_rfl) (fun _ _ _ h => h) (Or.inl ⟨by rfl, ?_⟩) hHeld ?_ ?_
        rotate_left
        · rintro w' ⟨s0, s1⟩
          go_simp
          with_reducible rfl
        rotate_left
        · simp only [Act.put, List.setIfInBounds_toArray, List.set_cons_zero, List.set_cons_succ, i64_w, i32_w]
          rfl
        refine take_ (i := 2) (N := some 30) (v := ?_) (a' := ?_) #[true, true, true, true, false, true, false, false, false] rfl rfl (by kernel_rfl) (fun _ _ _ h => h) (Or.inl ⟨by rfl, ?_⟩) hHeld ?_ ?_
        rotate_left
        · rintro w' ⟨s0, s1⟩
          go_simp
          with_reducible rfl
        rotate_left
        · simp only [Act.put, List.setIfInBounds_toArray, List.set_cons_zero, List.set_cons_succ, i64_w, i32_w]
          rfl
        refine take_ (i := 4) (N := some 32) (v := ?_) (a' := ?_) #[true, true, true, true, true, true, false, false, false] rfl rfl (by kernel_rfl) (fun _ _ _ h => h) (Or.inl ⟨by rfl, ?_⟩) hHeld ?_ ?_
        rotate_left
        · rintro w' ⟨s0, s1⟩
          go_simp
          with_reducible rfl
        rotate_left
        · simp only [Act.put, List.setIfInBounds_toArray, List.set_cons_zero, List.set_cons_succ, i64_w, i32_w]
          rfl
        refine one_ (i := 6) (N := some 34) #[true, true, true, true, true, true, true, false, false] rfl rfl (by kernel_rfl) (by decide) (fun K hK => ?_)
        refine value_ (w1 := ?_) (v := ?_) (by rfl) rfl ?_ ?_
        rotate_left 2
        · go_simp
          constructor
          · rfl
          · rfl
        refine hK.out _ _ ⟨hcB _ (Below.heap_alloc _ _ _ hbslt), hlk _ (Below.heap_alloc _ _ _ hmblt)⟩ (fun hHeld => ?_)
        clear hK K
        refine norm_ (a' := ?_) ?_ ?_
        rotate_left
        · show Act.put _ (some 34) _ = _
          simp only [Act.put, List.setIfInBounds_toArray, List.set_cons_zero, List.set_cons_succ, i64_w, i32_w]
          rfl
        refine one_ (i := 7) (N := some 35) #[true, true, true, true, true, true, true, true, false] rfl rfl (by kernel_rfl) (by decide) (fun K hK => ?_)
        refine step_append_cells (w0 := wr.drew) base (by rfl) (.tmp 32) (.tmp 34) 37 3 (.int .i64 0) 1 8 rfl Try.underlying37 info3 rfl (by decide) (by decide) v _ _ [.int .i64 (j : Int)] rfl rfl rfl (by simp [Value.oneCell']) hoi.out.1 hbel.out hble ?_ ?_
        · have := hpl.out; omega
        intro v1 w1 hown1 hb1 hg1 hat1
        refine hK.out _ _ ⟨hcB _ (hg1.block bs hbslt (hvb bs hbs)), hlk _ (hg1.block mb hmblt (hvb mb hmb0))⟩ (fun hHeld => ?_)
        clear hK K
        refine norm_ (a' := ?_) ?_ ?_
        rotate_left
        · show Act.put _ (some 35) _ = _
          simp only [Act.put, List.setIfInBounds_toArray, List.set_cons_zero, List.set_cons_succ, i64_w, i32_w]
          rfl
        refine last_ (i := 8) (N := none) #[true, true, true, true, true, true, true, true, true] rfl rfl (by kernel_rfl) (by decide) (fun K hK => ?_)
        have hown1' : w1.ownsInts base 3 .i64 v1 (ints (posOf d j (d.extract j (j + 3)).data.toList) ++ [(j : Int)]) := ⟨by simpa using hown1, hwf1.out⟩
        obtain ⟨w2, hup, hS2, hg2⟩ := hback.out w1 v1 hg1 hown1' hat1 h2 rfl
        refine skip_ (w1 := w2) (by rfl) rfl ?_ ?_
        · go_simp
        refine hK.out _ _ ?_
        clear hK K
        refine done_ (by kernel_rfl) ?_


        have hF2 : NFr base mb w w2 := HF.out.trans ((NFr.drew wr).trans ((NFr.grown hg1 fun k e => .inr ⟨own_base hoi.out.1 k e, own_typed hoi.out.1 k e⟩).trans (NFr.grown hg2 fun k e => .inl (by cases e; rfl))))
        clear hlk hback hup hcB hvb hHeld hown1 hown1' hg1 hg2 hb1 hsl hoi
        go_wp2
        go_roundw
        case rel => exact ⟨j + 1, by omega, by omega, by go_num, ⟨hS2⟩, ⟨hF2⟩⟩
        case measure => simp [intOf]; omega
      · have h2' : decide ((j : Int) + 3 ≤ (d.size : Int)) = false := decide_eq_false (by omega)
        go_wp2
        go_end0
        exact ⟨rfl, HS1.out.later hj2 (by omega), HF.out⟩
    · go_wp2
      go_end0
      have : j = p + n := by omega
      subst this
      exact ⟨rfl, HS1.out, HF.out⟩

end Go.Proofs.Ytlhgdkaaomdipaa.Tok
