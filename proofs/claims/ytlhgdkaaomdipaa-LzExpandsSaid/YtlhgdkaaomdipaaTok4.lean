/- Layer 4 (lz): lz.Tokens: its contract. -/
import Derived.Test.YtlhgdkaaomdipaaTok2
import Derived.Test.YtlhgdkaaomdipaaTok3
namespace Go.Proofs.Ytlhgdkaaomdipaa.Tok
open Go.RowKit Go.Maps Go.WideMaps Go.Proofs.YtlhgdkaaomdipaaW.PrintWords Go.Proofs.YtlhgdkaaomdipaaW.PrintLast Go.Proofs.Ytlhgdkaaomdipaa.Pr
open Go.ChangeShapes (lits)
set_option linter.unusedVariables false
set_option linter.unusedSimpArgs false

/-- The tokens' row lives on behind the closure. -/
theorem out_NFr {w w1 : World} {base mb b : Nat} {v : Value} {xs : List S34} {es : Array MapEntry} {clock : Nat} (h : Kd.R k34 34 w b (fun _ => True) v xs) (hf : NFr base mb w w1) (hm : w.heap[mb]? = some (.map es clock)) : Kd.R k34 34 w1 b (fun _ => True) v xs := by
  refine Kd.R_mono (ok := fun k => True ∧ b ≤ k ∧ k < w.heap.size ∧ ∃ q, q ∈ 34 :: k34.E ∧ ∃ cells, w.heap[k]? = some (.cells cells q (0, 0))) (Kd.R_move (Kd.R_bound h) fun k hk => ?_) (fun _ _ => trivial)
  obtain ⟨_, h1, h2, q, hq, cells, hc⟩ := hk
  have hE : k34.E = [] := rfl
  rw [hE] at hq
  simp at hq
  subst hq
  exact hf.block k h2 (by rintro rfl; rw [hm] at hc; cases hc) (.inr ⟨cells, 34, by decide, hc⟩)

/-- What holds between two rounds of the places. -/
structure Rel (w wr : World) (d : ByteArray) (i : Nat) (u3 : Value) (out : List S34) : Prop where
  bel : Below w.heap.size w wr
  box : wr.heap[w.heap.size]? = some (.cells #[.string d] 9 (0, 0))
  seen : wr.heap[w.heap.size + 1 + 1]? = some (.cells #[.map (some (w.heap.size + 1))] 36 (0, 0))
  map : Seen wr (w.heap.size + 1 + 1 + 1) (w.heap.size + 1) d i
  own : Kd.R k34 34 wr w.heap.size (fun _ => True) u3 out
  le : w.heap.size + 1 + 1 + 1 ≤ wr.heap.size

theorem Rel.drewN {w wr : World} {d : ByteArray} {i : Nat} {u3 : Value} {out : List S34} (h : Rel w wr d i u3 out) (m : Nat) : Rel w (wr.drewN m) d i u3 out := by
  have hg : ∀ m, wr.grownBy (wr.drewN m) none := by
    intro m
    induction m with
    | zero => exact World.grownBy.refl _ _
    | succ m ih => rw [← World.drew_drewN]; exact ⟨ih.os, ih.tape, ih.output, ih.size, ih.block⟩
  have hh : ∀ m, (wr.drewN m).heap = wr.heap := by
    intro m
    induction m with
    | zero => rfl
    | succ m ih => rw [← World.drew_drewN]; exact ih
  replace hg := hg m
  replace hh := hh m
  exact ⟨pw_below_drewN h.bel m, by rw [hh]; exact h.box, by rw [hh]; exact h.seen, h.map.moved hg (by simp) (fun k e => by cases e), Kd.R_below h.own ⟨hg.os, hg.tape, hg.output, hg.size, fun k hk => hg.block k hk (by simp)⟩, by rw [hh]; exact h.le⟩
theorem Rel.append {w wr w1 : World} {d : ByteArray} {i : Nat} {u3 v1 : Value} {out out1 : List S34} (h : Rel w wr d i u3 out) (ho : Kd.R k34 34 w1 w.heap.size (fun _ => True) v1 out1) (hb : Below w.heap.size w w1) (hg : wr.grownBy w1 u3.ownBlock) : Rel w w1 d i v1 out1 := by
  obtain ⟨inner, hown⟩ := Kd.R_own h.own
  obtain ⟨D, ⟨es, clock, hes, _⟩, _⟩ := h.map
  have hne : ∀ k, u3.ownBlock = some k → ∃ cells, wr.heap[k]? = some (.cells cells 34 (0, 0)) := fun k e => own_typed hown k e
  have h1 : ∀ k, wr.heap[k]? = some (.cells #[.string d] 9 (0, 0)) → some k ≠ u3.ownBlock := fun k hk e => by
    obtain ⟨cells, hc⟩ := hne k e.symm
    rw [hk] at hc; cases hc
  exact ⟨hb, (hg.block _ (blk_lt h.box) (h1 _ h.box)).trans h.box,
    (hg.block _ (blk_lt h.seen) (fun e => by obtain ⟨cells, hc⟩ := hne _ e.symm; rw [h.seen] at hc; cases hc)).trans h.seen,
    h.map.moved hg (fun e => by obtain ⟨cells, hc⟩ := hne _ e.symm; rw [hes] at hc; cases hc) (fun k e => .inr (by obtain ⟨cells, hc⟩ := hne k e; exact ⟨cells, 34, by decide, hc⟩)), ho, Nat.le_trans h.le hg.size⟩
theorem Rel.noted {w wr w1 : World} {d : ByteArray} {i n : Nat} {u3 : Value} {out : List S34} (h : Rel w wr d i u3 out) (hs : Seen w1 (w.heap.size + 1 + 1 + 1) (w.heap.size + 1) d (i + n)) (hf : NFr (w.heap.size + 1 + 1 + 1) (w.heap.size + 1) wr w1) : Rel w w1 d (i + n) u3 out := by
  obtain ⟨D, ⟨es, clock, hes, _⟩, _⟩ := h.map
  exact ⟨h.bel.trans ⟨hf.os, hf.tape, hf.output, hf.size, fun k hk => hf.block k (Nat.lt_of_lt_of_le hk h.bel.size) (by omega) (.inl (by omega))⟩,
    (hf.block _ (blk_lt h.box) (by omega) (.inl (by omega))).trans h.box, (hf.block _ (blk_lt h.seen) (by omega) (.inl (by omega))).trans h.seen, hs, out_NFr h.own hf hes, Nat.le_trans h.le hf.size⟩
theorem note_at (w wr : World) (d : ByteArray) (i n : Nat) (i' n' : Int) (u3 : Value) (out : List S34) (hi : i' = i) (hn : n' = n) (h : Rel w wr d i u3 out) (hsz : d.size ≤ 20000) (hin : i + n ≤ d.size) :
    Calls Try.prog 14 #[.int .i64 i', .int .i64 n', .pointer (some ⟨w.heap.size, 0, none⟩), .pointer (some ⟨w.heap.size + 1 + 1, 0, none⟩)] wr fun e w' => e = .returned (.tuple #[]) ∧ Aside0 (Rel w w' d (i + n) u3 out) := by
  subst hi
  subst hn
  refine (note_calls wr (w.heap.size + 1 + 1 + 1) (w.heap.size + 1) w.heap.size (w.heap.size + 1 + 1) d i n h.box h.seen (by omega) (by omega) (by omega) (by omega) h.map hsz hin h.le).mono ?_
  rintro e w' ⟨rfl, hs, hf⟩
  exact ⟨rfl, ⟨h.noted hs hf⟩⟩

set_option maxHeartbeats 1000000 in
set_option maxRecDepth 100000 in
theorem tokens_calls (w : World) (d : ByteArray) (hsz : d.size ≤ 20000) :
    Calls Try.prog 8 #[.string d] w fun e w' => ∃ v0_ : Value, e = .returned (v0_) ∧ Kd.R k34 34 w' w.heap.size (fun _ => True) v0_ (toks d 0) ∧ Below w.heap.size w w' := by
  have hmm := @run_makeMap Try.prog
  go_enter Try.func8, Try.ntmps8
  go_wp2
  go_step3
  go_wp2
  go_step3
  go_wp2
  go_loopg [3, 6] d.size (fun g u3 v6 wr => ∃ i : Nat, i ≤ d.size ∧ d.size - i ≤ g ∧ v6 = .int .i64 i ∧ ∃ out, Aside0 (Rel w wr d i u3 out) ∧ Aside0 (out ++ toks d i = toks d 0))
  case atStart =>
    refine ⟨0, Nat.zero_le _, by omega, rfl, [], ⟨⟨?_, ?_, ?_, ?_, Kd.R_nil _ _ _ _ _, ?_⟩⟩, ⟨rfl⟩⟩
    · exact (((Below.refl _ _).alloc (Nat.le_refl _) _).alloc (by simp) _).alloc (by simp; omega) _
    · exact (Below.heap_alloc _ _ _ (by simp; omega)).trans ((Below.heap_alloc _ _ _ (by simp)).trans (heap_alloc_new w _))
    · have := heap_alloc_new ((w.alloc (.cells #[.string d] 9)).alloc (.map #[] 0)) (.cells #[.map (some (w.heap.size + 1))] 36)
      simpa using this
    · have h1 := Seen.made (w.alloc (.cells #[.string d] 9)) d (w.heap.size + 1 + 1 + 1) (by simp)
      have h2 := h1.moved (World.grownBy_alloc _ (.cells #[.map (some (w.heap.size + 1))] 36) none) (by simp) (fun k e => by cases e)
      simpa using h2
    · simp
  case round =>
    obtain ⟨i, hi, hg, rfl, out, HR, HT⟩ := hrel
    have hd1 : wr.cell? ⟨w.heap.size, 0, none⟩ = some (.string d) := (blk_cell HR.out.box 0).trans rfl
    have hs1 : wr.cell? ⟨w.heap.size + 1 + 1, 0, none⟩ = some (.map (some (w.heap.size + 1))) := (blk_cell HR.out.seen 0).trans rfl
    by_cases h1 : i < d.size
    · have h1b : decide (i < d.size) = true := decide_eq_true h1
      go_upto_if 22 with (fail)
      go_cut [7, 8] (fun v7 v8 wc => ∃ m : Nat, wc = wr.drewN m ∧ v7 = .int .i64 ((best d i).1 : Int) ∧ v8 = .int .i64 ((best d i).2 : Int))
      case first =>
        by_cases h3 : i + 3 ≤ d.size
        · have h3b : decide ((i : Int) + 3 ≤ (d.size : Int)) = true := decide_eq_true (by omega)
          have hbd := Aside0.mk (show best d i = scan d i (posOf d i (key3 d i)).reverse 0 0 by unfold best; rw [if_pos h3])
          have hsl : ∀ W, (Instr.slice 9 (.string d) (some (.int .i64 (i : Int))) (some (.int .i64 ((i : Int) + 3))) none).run Try.prog W = .ok (.string (d.extract i (i + 3))) W := fun W => run_slice_string W 9 d _ _ _ _ Try.underlying9 (by omega) (by omega) (by omega)
          obtain ⟨v, hlk, hoi, _⟩ := Seen.look HR.out.map (by unfold maxLen; omega) (d.extract i (i + 3)) (by simp [maxLen]; omega)
          obtain ⟨A9, C9, rfl, hLC, hrd⟩ := own_reads_of_le (enc := Value.int .i64) (d := (0 : Int)) hoi.1
          have hpl : Aside0 ((posOf d i (key3 d i)).length ≤ i) := ⟨posOf_len _ _ _⟩
          obtain ⟨L9, hL9⟩ : ∃ L, (ints (posOf d i (d.extract i (i + 3)).data.toList)).length = L := ⟨_, rfl⟩
          rw [hL9] at hlk hrd hLC
          have hL9' : Aside0 ((posOf d i (key3 d i)).length = L9) := ⟨by rw [← hL9]; simp [ints, key3]⟩
          have hrd := Aside0.mk hrd
          clear hL9 hoi
          go_wp2
          have hw3 : wrap64 ((i : Int) + 3) = (i : Int) + 3 := by unfold wrap64; omega
          have hw3' : IntKind.i64.wrap ((i : Int) + 3) = (i : Int) + 3 := by rw [i64_w]; exact hw3
          refine start_ (n := 8) (S := fun w' => w'.cell? ⟨w.heap.size, 0, none⟩ = some (.string d) ∧ w'.cell? ⟨w.heap.size + 1 + 1, 0, none⟩ = some (.map (some (w.heap.size + 1))) ∧ (Instr.lookup 36 (.map (some (w.heap.size + 1))) (.string (d.extract i (i + 3))) false).run Try.prog w' = .ok (.slice A9 L9 C9) w') (ds := []) #[false, false, false, false, false, false, false, false] (by kernel_rfl) rfl rfl ⟨hd1, hs1, hlk _ rfl⟩ (fun hHeld => ?_)
          refine pure_ (i := 2) (N := some 25) (v := ?_) (a' := ?_) #[false, false, true, false, false, false, false, false] rfl rfl (by kernel_rfl) (fun _ _ _ h => h) (Or.inl ⟨by rfl, ?_⟩) ?_ ?_
          rotate_left
          · intro w'
            go_simp
            with_reducible rfl
          rotate_left
          · simp only [Act.put, List.setIfInBounds_toArray, List.set_cons_zero, List.set_cons_succ, i64_w, i32_w]
            rfl
          refine pure_ (i := 3) (N := some 26) (v := ?_) (a' := ?_) #[false, false, true, true, false, false, false, false] rfl rfl (by kernel_rfl) (fun _ _ _ h => h) (Or.inl ⟨by rfl, ?_⟩) ?_ ?_
          rotate_left
          · intro w'
            go_simp
            with_reducible rfl
          rotate_left
          · simp only [Act.put, List.setIfInBounds_toArray, List.set_cons_zero, List.set_cons_succ, i64_w, i32_w]
            rfl
          refine pure_ (i := 4) (N := some 27) (v := ?_) (a' := ?_) #[false, false, true, true, true, false, false, false] rfl rfl (by kernel_rfl) (fun _ _ _ h => h) (Or.inl ⟨by rfl, ?_⟩) ?_ ?_
          rotate_left
          · intro w'
            go_simp
            with_reducible rfl
          rotate_left
          · simp only [Act.put, List.setIfInBounds_toArray, List.set_cons_zero, List.set_cons_succ, i64_w, i32_w]
            rfl
          refine take_ (i := 0) (N := some 23) (v := ?_) (a' := ?_) #[true, false, true, true, true, false, false, false] rfl rfl (by kernel_rfl) (fun _ _ _ h => h) (Or.inl ⟨by rfl, ?_⟩) hHeld ?_ ?_
          rotate_left
          · rintro w' ⟨s0, s1, s2⟩
            go_simp
            with_reducible rfl
          rotate_left
          · simp only [Act.put, List.setIfInBounds_toArray, List.set_cons_zero, List.set_cons_succ, i64_w, i32_w]
            rfl
          refine take_ (i := 1) (N := some 24) (v := ?_) (a' := ?_) #[true, true, true, true, true, false, false, false] rfl rfl (by kernel_rfl) (fun _ _ _ h => h) (Or.inl ⟨by rfl, ?_⟩) hHeld ?_ ?_
          rotate_left
          · rintro w' ⟨s0, s1, s2⟩
            go_simp
            with_reducible rfl
          rotate_left
          · simp only [Act.put, List.setIfInBounds_toArray, List.set_cons_zero, List.set_cons_succ, i64_w, i32_w]
            rfl
          refine pure_ (i := 5) (N := some 28) (v := ?_) (a' := ?_) #[true, true, true, true, true, true, false, false] rfl rfl (by kernel_rfl) (fun _ _ _ h => h) (Or.inl ⟨by rfl, ?_⟩) ?_ ?_
          rotate_left
          · intro w'
            go_simp
            with_reducible rfl
          rotate_left
          · simp only [Act.put, List.setIfInBounds_toArray, List.set_cons_zero, List.set_cons_succ, i64_w, i32_w]
            rfl
          refine take_ (i := 6) (N := some 29) (v := ?_) (a' := ?_) #[true, true, true, true, true, true, true, false] rfl rfl (by kernel_rfl) (fun _ _ _ h => h) (Or.inl ⟨by rfl, ?_⟩) hHeld ?_ ?_
          rotate_left
          · rintro w' ⟨s0, s1, s2⟩
            go_simp
            with_reducible rfl
          rotate_left
          · simp only [Act.put, List.setIfInBounds_toArray, List.set_cons_zero, List.set_cons_succ, i64_w, i32_w]
            rfl
          refine pure_ (i := 7) (N := some 9) (v := ?_) (a' := ?_) #[true, true, true, true, true, true, true, true] rfl rfl (by kernel_rfl) (fun _ _ _ h => h) (Or.inl ⟨by rfl, ?_⟩) ?_ ?_
          rotate_left
          · intro w'
            go_simp
            with_reducible rfl
          rotate_left
          · simp only [Act.put, List.setIfInBounds_toArray, List.set_cons_zero, List.set_cons_succ, i64_w, i32_w]
            rfl
          refine done_ (by kernel_rfl) ?_

          clear hlk hw3 hw3'
          have hLi : L9 ≤ i := by have := hpl.out; have := hL9'.out; omega
          go_wp2
          go_loopg [7, 8, 10] L9 (fun g v7 v8 v10 wq => ∃ (r b f : Nat) (kk : Int), kk ≤ (r : Int) - 1 ∧ (r : Int) - 1 ≤ kk ∧ r ≤ L9 ∧ r ≤ g ∧ v7 = .int .i64 (b : Int) ∧ v8 = .int .i64 (f : Int) ∧ v10 = .int .i64 kk ∧ b ≤ 258 ∧ i + b ≤ d.size ∧ Aside0 (scan d i ((posOf d i (key3 d i)).take r).reverse b f = best d i) ∧ Drawn0 wr wq)
          case atStart => exact ⟨L9, 0, 0, (L9 : Int) - 1, by omega, by omega, Nat.le_refl _, Nat.le_refl _, rfl, rfl, rfl, by omega, by omega, ⟨by rw [hbd.out, ← hL9'.out, List.take_length]⟩, ⟨⟨1, rfl⟩⟩⟩
          case round =>
            obtain ⟨r, b, f, kk, hk1, hk2, hrL, hrg, rfl, rfl, rfl, hb1, hb2, HSc, ⟨m, rfl⟩⟩ := hrel
            by_cases h0 : 0 ≤ kk
            · obtain ⟨q, rfl⟩ := Int.eq_ofNat_of_zero_le h0
              have hr : r = q + 1 := by omega
              subst hr
              obtain ⟨j, hj⟩ : ∃ j, (posOf d i (key3 d i))[q]? = some j := ⟨_, List.getElem?_eq_getElem (by have := hL9'.out; omega)⟩
              have hjp := posOf_lt (List.mem_of_getElem? hj)
              have hji : j < i := hjp.1
              have hjs : j + 3 ≤ d.size := hjp.2.1
              obtain ⟨ad, rfl, hx⟩ := hrd.out.at_ (q : Int) (by omega) (by omega)
              have hx1 : wr.cell? (ad.add q) = some (.int .i64 (j : Int)) := by
                rw [Int.toNat_natCast] at hx
                rw [hx]
                simp [rdOf, ints, key3] at hj ⊢
                rw [hj]
                rfl
              have hstep : Aside0 (scan d i ((posOf d i (key3 d i)).take (q + 1)).reverse b f = scan d i (j :: ((posOf d i (key3 d i)).take q).reverse) b f) := ⟨by
                rw [List.take_add_one, hj]; simp⟩
              clear hx hj hjp
              by_cases hw : i - j ≤ 512
              · have hwb : decide ((i : Int) - (j : Int) ≤ 512) = true := decide_eq_true (by omega)
                go_upto_block 4 with (fail)
                go_cut [11] (fun v11 wc => ∃ n : Nat, v11 = .int .i64 (n : Int) ∧ 3 ≤ n ∧ n ≤ 258 ∧ i + n ≤ d.size ∧ Aside0 (mrun d i j 3 = n) ∧ Drawn0 wr wc)
                case first =>
                  go_wp2
                  go_loopg [11] 258 (fun g v11 wq => ∃ n : Nat, v11 = .int .i64 (n : Int) ∧ 3 ≤ n ∧ n ≤ 258 ∧ i + n ≤ d.size ∧ 258 - n ≤ g ∧ Aside0 (mrun d i j n = mrun d i j 3) ∧ Drawn0 wr wq)
                  case atStart => exact ⟨3, rfl, by omega, by omega, by omega, by omega, ⟨rfl⟩, ⟨⟨m, rfl⟩⟩⟩
                  case round =>
                    obtain ⟨n, rfl, hn1, hn2, hn3, hn4, HM, ⟨m2, rfl⟩⟩ := hrel
                    have e1 : IntKind.i64.wrap ((i : Int) + (n : Int)) = (i : Int) + (n : Int) := IntWalk.i64_in _ (by omega)
                    have e2 : IntKind.i64.wrap ((j : Int) + (n : Int)) = (j : Int) + (n : Int) := IntWalk.i64_in _ (by omega)
                    have e3 : (0 : Int) ≤ (i : Int) + (n : Int) := by omega
                    have e4 : (0 : Int) ≤ (j : Int) + (n : Int) := by omega
                    by_cases c1 : n < 258
                    · have c1b : decide ((n : Int) < 258) = true := decide_eq_true (by omega)
                      have c1n : decide (n < 258) = true := decide_eq_true (by omega)
                      by_cases c2 : i + n < d.size
                      · have e5 : (i : Int) + (n : Int) < (d.size : Int) := by omega
                        have e6 : (j : Int) + (n : Int) < (d.size : Int) := by omega
                        have c2b : decide ((i : Int) + (n : Int) < (d.size : Int)) = true := decide_eq_true (by omega)
                        have hx10 := bt_at d ((i : Int) + (n : Int))
                        have hx11 := bt_at d ((j : Int) + (n : Int))
                        by_cases c3 : bt d ((i : Int) + (n : Int)) = bt d ((j : Int) + (n : Int))
                        · have hm1 : Aside0 (mrun d i j (n + 1) = mrun d i j 3) := ⟨(mrun_step c1 c2 (by rw [Int.natCast_add, Int.natCast_add]; exact c3)).trans HM.out⟩
                          have c3b : (bt d ((i : Int) + (n : Int)) == bt d ((j : Int) + (n : Int))) = true := beq_iff_eq.mpr c3
                          clear c3
                          go_wp2
                          repeat (go_quiet (fail); try go_wp2)
                          go_roundg (258 - (n + 1))
                          case measure => omega
                          case rel => exact ⟨n + 1, by go_num, by omega, by omega, by omega, by omega, hm1, by repeat (first | exact Drawn0.refl _ | apply Drawn0.step)⟩
                        · have hm1 : Aside0 (mrun d i j 3 = n) := ⟨HM.out.symm.trans (mrun_stop (by rw [Int.natCast_add, Int.natCast_add]; exact fun h => c3 h.2.2))⟩
                          have c3b : (bt d ((i : Int) + (n : Int)) == bt d ((j : Int) + (n : Int))) = false := beq_eq_false_iff_ne.mpr c3
                          clear c3
                          go_wp2
                          repeat (go_quiet (fail); try go_wp2)
                          go_meet
                          case rel => exact ⟨n, rfl, hn1, hn2, hn3, hm1, by repeat (first | exact Drawn0.refl _ | apply Drawn0.step)⟩
                      · have hm1 : Aside0 (mrun d i j 3 = n) := ⟨HM.out.symm.trans (mrun_stop (fun h => c2 h.2.1))⟩
                        have c2b : decide ((i : Int) + (n : Int) < (d.size : Int)) = false := decide_eq_false (by omega)
                        go_wp2
                        repeat (go_quiet (fail); try go_wp2)
                        go_meet
                        case rel => exact ⟨n, rfl, hn1, hn2, hn3, hm1, by repeat (first | exact Drawn0.refl _ | apply Drawn0.step)⟩
                    · have hm1 : Aside0 (mrun d i j 3 = n) := ⟨HM.out.symm.trans (mrun_stop (fun h => c1 h.1))⟩
                      have c1b : decide ((n : Int) < 258) = false := decide_eq_false (by omega)
                      have c1n : decide (n < 258) = false := decide_eq_false (by omega)
                      go_wp2
                      repeat (go_quiet (fail); try go_wp2)
                      go_meet
                      case rel => exact ⟨n, rfl, hn1, hn2, hn3, hm1, by repeat (first | exact Drawn0.refl _ | apply Drawn0.step)⟩
                case rest =>
                  obtain ⟨n, rfl, hn1, hn2, hn3, HM, ⟨m2, rfl⟩⟩ := hcut
                  have hsub : ((i - j : Nat) : Int) = (i : Int) - (j : Int) := by omega
                  have hsub := Aside0.mk hsub
                  have e7 : IntKind.i64.wrap ((i : Int) - (j : Int)) = (i : Int) - (j : Int) := IntWalk.i64_in _ (by omega)
                  by_cases hbn : b < n
                  · have hbnb : decide ((b : Int) < (n : Int)) = true := decide_eq_true (by omega)
                    have hbnn : decide (b < n) = true := decide_eq_true hbn
                    have hs2 := Aside0.mk ((HSc.out.symm.trans hstep.out).trans (scan_more hw (by rw [HM.out]; exact hbn)))
                    by_cases hb258 : n = 258
                    · have hq : Aside0 (best d i = (n, i - j)) := ⟨hs2.out.trans (by rw [HM.out, if_pos hb258])⟩
                      have hbb : ((n : Int) == 258) = true := beq_iff_eq.mpr (by omega)
                      have hbb2 : (n == 258) = true := beq_iff_eq.mpr (by omega)
                      clear hb258
                      go_wp2
                      repeat (go_quiet (fail); try go_wp2)
                      go_meet
                      case rel => exact ⟨_, rfl, by rw [hq.out], by rw [hq.out]; show _ = Value.int .i64 ((i - j : Nat) : Int); rw [hsub.out]⟩
                    · have hq : Aside0 (scan d i ((posOf d i (key3 d i)).take q).reverse n (i - j) = best d i) := ⟨Eq.symm (hs2.out.trans (by rw [HM.out, if_neg hb258]))⟩
                      have hbb : ((n : Int) == 258) = false := beq_eq_false_iff_ne.mpr (by omega)
                      have hbb2 : (n == 258) = false := beq_eq_false_iff_ne.mpr (by omega)
                      go_wp2
                      repeat (go_quiet (fail); try go_wp2)
                      go_roundg q
                      case measure => omega
                      case rel => exact ⟨q, n, i - j, (q : Int) - 1, by omega, by omega, by omega, Nat.le_refl _, rfl, by rw [hsub.out], rfl, by omega, by omega, hq, by repeat (first | exact Drawn0.refl _ | apply Drawn0.step)⟩
                  · have hbnb : decide ((b : Int) < (n : Int)) = false := decide_eq_false (by omega)
                    have hbnn : decide (b < n) = false := decide_eq_false hbn
                    have hs2 := Aside0.mk ((HSc.out.symm.trans hstep.out).trans (scan_same hw (by rw [HM.out]; exact hbn)))
                    by_cases hb258 : b = 258
                    · have hq : Aside0 (best d i = (b, f)) := ⟨hs2.out.trans (by rw [if_pos hb258])⟩
                      have hbb : ((b : Int) == 258) = true := beq_iff_eq.mpr (by omega)
                      have hbb2 : (b == 258) = true := beq_iff_eq.mpr (by omega)
                      clear hb258
                      go_wp2
                      repeat (go_quiet (fail); try go_wp2)
                      go_meet
                      case rel => exact ⟨_, rfl, by rw [hq.out], by rw [hq.out]⟩
                    · have hq : Aside0 (scan d i ((posOf d i (key3 d i)).take q).reverse b f = best d i) := ⟨Eq.symm (hs2.out.trans (by rw [if_neg hb258]))⟩
                      have hbb : ((b : Int) == 258) = false := beq_eq_false_iff_ne.mpr (by omega)
                      have hbb2 : (b == 258) = false := beq_eq_false_iff_ne.mpr (by omega)
                      go_wp2
                      repeat (go_quiet (fail); try go_wp2)
                      go_roundg q
                      case measure => omega
                      case rel => exact ⟨q, b, f, (q : Int) - 1, by omega, by omega, by omega, Nat.le_refl _, rfl, rfl, rfl, hb1, hb2, hq, by repeat (first | exact Drawn0.refl _ | apply Drawn0.step)⟩
              · have hq : Aside0 (best d i = (b, f)) := ⟨(HSc.out.symm.trans hstep.out).trans (scan_far hw)⟩
                have hwb : decide ((i : Int) - (j : Int) ≤ 512) = false := decide_eq_false (by omega)
                go_wp2
                go_meet
                case rel => exact ⟨_, rfl, by rw [hq.out], by rw [hq.out]⟩
            · have hr0 : r = 0 := by omega
              subst hr0
              have hq : Aside0 (best d i = (b, f)) := ⟨HSc.out.symm.trans rfl⟩
              have h0b : decide (0 ≤ kk) = false := decide_eq_false h0
              go_wp2
              go_meet
              case rel => exact ⟨_, rfl, by rw [hq.out], by rw [hq.out]⟩
        · have h3b : decide ((i : Int) + 3 ≤ (d.size : Int)) = false := decide_eq_false (by omega)
          have hbd := Aside0.mk (show best d i = (0, 0) by unfold best; rw [if_neg h3])
          go_wp2
          go_meet
          case rel => exact ⟨0, rfl, by rw [hbd.out]; rfl, by rw [hbd.out]; rfl⟩
      case rest =>
        obtain ⟨m, rfl, rfl, rfl⟩ := hcut
        obtain ⟨hbd1, hbd2, hbd3⟩ := best_bd d i hi
        have hol : out.length ≤ 20000 := by
          have h1 := congrArg List.length HT.out
          have h2 := toks_len d 0
          rw [List.length_append] at h1
          omega
        have hol := Aside0.mk hol
        obtain ⟨bb, hbb⟩ : ∃ bb, bb = (best d i).1 := ⟨_, rfl⟩
        obtain ⟨ff, hff⟩ : ∃ ff, ff = (best d i).2 := ⟨_, rfl⟩
        rw [← hbb] at hbd1 hbd2 hbd3 ⊢
        rw [← hff] at hbd3 ⊢
        have HR2 := Aside0.mk (HR.out.drewN m)
        have hdm : (wr.drewN m).cell? ⟨w.heap.size, 0, none⟩ = some (.string d) := (blk_cell HR2.out.box 0).trans rfl
        obtain ⟨W2, hW2⟩ : ∃ W2, wr.drewN m = W2 := ⟨_, rfl⟩
        rw [hW2] at HR2 hdm ⊢
        clear hW2 hd1 hs1 HR
        by_cases h3 : bb < 3
        · have ht : Aside0 (toks d i = ⟨bt d (i : Int), 0, 0⟩ :: toks d (i + 1)) := ⟨by
            conv => lhs; unfold toks
            rw [dif_pos h1, dif_pos (by rw [← hbb]; exact h3)]⟩
          have h3b : decide ((bb : Int) < 3) = true := decide_eq_true (by omega)
          have h3n : decide (bb < 3) = true := decide_eq_true h3
          have hx : ∀ h : i < d.size, (((d[i]'h).toNat : Nat) : Int) = bt d (i : Int) := fun h => bt_at d (i : Int) (by simpa using h)
          obtain ⟨hbr1, hbr2⟩ := bt_range d (i : Int)
          have hbw : wrap64 (bt d (i : Int)) = bt d (i : Int) := by unfold wrap64; omega
          clear hbb hff
          go_wp2_with (first | ((with_reducible refine gate_builtin (b := .append) (xs := #[.tmp 88, .tmp 94]) rfl ?_); at_builtin; refine Kd.R_append k34 (w0 := w) w.heap.size rfl (.tmp 88) (.tmp 94) 23 34 (.agg #[(.int .i64 0), (.int .i64 0), (.int .i64 0)]) 24 rfl Try.underlying23 info34 rfl (by decide) (by omega) u3 out (⟨bt d (i : Int), 0, 0⟩ : S34) [.int .i64 (bt d (i : Int)), .int .i64 0, .int .i64 0] (fun _ => True) (fun _ => False) rfl rfl ?aP (fun _ hk => hk.elim) ?aF ?aO ?aB ?aS ?aL ?_; (case aP => exact k34_mkM _ _ _ (⟨bt d (i : Int), 0, 0⟩ : S34)); (case aB => exact HR2.out.bel); (case aF => exact (fun _ _ => trivial)); (case aO => exact HR2.out.own); (case aS => exact HR2.out.bel.size); (case aL => have := hol.out; omega); intro v1 w1 ho hb hg hat; have HR3 := Aside0.mk (HR2.out.append ho hb hg); clear ho hb hg hat HR2 hdm) | (go_at_call 14; refine (note_at w _ d i 1 _ _ v1 (out ++ [(⟨bt d (i : Int), 0, 0⟩ : S34)]) rfl rfl HR3.out hsz (by omega)).mono ?_; rintro e w' ⟨rfl, HR4⟩; clear HR3))
          go_roundg (d.size - (i + 1))
          case measure => omega
          case rel => exact ⟨i + 1, by omega, Nat.le_refl _, by go_num, _, HR4, ⟨by rw [← HT.out, ht.out]; simp⟩⟩
        · have ht : Aside0 (toks d i = ⟨0, (bb : Int), (ff : Int)⟩ :: toks d (i + bb)) := ⟨by
            conv => lhs; unfold toks
            rw [dif_pos h1, dif_neg (by rw [← hbb]; exact h3), ← hbb, ← hff]⟩
          have h3b : decide ((bb : Int) < 3) = false := decide_eq_false (by omega)
          have h3n : decide (bb < 3) = false := decide_eq_false h3
          clear hbb hff
          go_wp2_with (first | ((with_reducible refine gate_builtin (b := .append) (xs := #[.tmp 101, .tmp 105]) rfl ?_); at_builtin; refine Kd.R_append k34 (w0 := w) w.heap.size rfl (.tmp 101) (.tmp 105) 23 34 (.agg #[(.int .i64 0), (.int .i64 0), (.int .i64 0)]) 24 rfl Try.underlying23 info34 rfl (by decide) (by omega) u3 out (⟨0, (bb : Int), (ff : Int)⟩ : S34) [.int .i64 0, .int .i64 (bb : Int), .int .i64 (ff : Int)] (fun _ => True) (fun _ => False) rfl rfl ?aP (fun _ hk => hk.elim) ?aF ?aO ?aB ?aS ?aL ?_; (case aP => exact k34_mkM _ _ _ (⟨0, (bb : Int), (ff : Int)⟩ : S34)); (case aB => exact HR2.out.bel); (case aF => exact (fun _ _ => trivial)); (case aO => exact HR2.out.own); (case aS => exact HR2.out.bel.size); (case aL => have := hol.out; omega); intro v1 w1 ho hb hg hat; have HR3 := Aside0.mk (HR2.out.append ho hb hg); clear ho hb hg hat HR2 hdm) | (go_at_call 14; refine (note_at w _ d i bb _ _ v1 (out ++ [(⟨0, (bb : Int), (ff : Int)⟩ : S34)]) rfl rfl HR3.out hsz (by omega)).mono ?_; rintro e w' ⟨rfl, HR4⟩; clear HR3))
          go_roundg (d.size - (i + bb))
          case measure => omega
          case rel => exact ⟨i + bb, by omega, Nat.le_refl _, by go_num, _, HR4, ⟨by rw [← HT.out, ht.out]; simp⟩⟩
    · have hb1 : decide (i < d.size) = false := decide_eq_false h1
      go_wp2
      rw [Exit.noGoto_ret]
      go_ret
      have : toks d i = [] := by unfold toks; rw [dif_neg h1]
      have h2 := HT.out
      rw [this, List.append_nil] at h2
      exact ⟨_, rfl, h2 ▸ HR.out.own, HR.out.bel⟩

end Go.Proofs.Ytlhgdkaaomdipaa.Tok
