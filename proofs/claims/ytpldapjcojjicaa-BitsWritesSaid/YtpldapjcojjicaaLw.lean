/- BitsWrites: the walk: what is laid, call by call, is what the document's writer lays. -/
import Derived.Test.YtpldapjcojjicaaLw0
namespace Go.Proofs.Ytpldapjcojjicaa.B
open Go.RowKit Go.Proofs.YtpldapjcojjicaaW.PrintWords Go.Proofs.YtpldapjcojjicaaW.PrintLast Go.Proofs.Ytpldapjcojjicaa.Pb
set_option linter.unusedVariables false
set_option linter.unusedSimpArgs false

set_option maxHeartbeats 2000000 in
set_option maxRecDepth 100000 in
theorem bwrites_calls (W : World) (A : Option Addr) (c : Nat) (ops : List S32) (hC : Kd.C k32 W A ops.length ops) :
    Calls Try.prog 5 #[.slice A ops.length c] W fun e W' => e = .returned (.bool true) ∧ Below W.heap.size W W' := by
  have hC := Aside0.mk hC
  have hAw : ∀ w, Calls Try.prog 17 #[] w fun e w' => e = .returned (.bool true) ∧ Below w.heap.size w w' := fun w => vitrinelaw01_awake.calls true w rfl
  obtain ⟨tx, htx⟩ := text_all
  have htx := Aside0.mk htx
  go_enter Try.func5, Try.ntmps5
  go_wp2_with (go_at_call 25; refine (new_calls W).mono ?_; rintro e w1 ⟨rfl, rfl⟩)
  have HS0 := Aside0.mk (bw_start W)
  go_loopg [5] 300 (fun gh v5 wr => ∃ (x : Int) (v u : Value) (ys : List Int) (h n : Nat), v5 = .int .i64 x ∧ 0 ≤ x ∧ x ≤ 300 ∧ 300 - x ≤ gh ∧ n ≤ 7 ∧ Aside0 (h < 2 ^ n) ∧ (ys.length : Int) ≤ 60 * x ∧ Aside0 (BW W wr v u ys h n ys h n))
  case atStart => exact ⟨0, _, _, [], 0, 0, rfl, by omega, by omega, by omega, by omega, ⟨by decide⟩, by simp, HS0⟩
  case round =>
    clear HS0
    obtain ⟨x, v, u, ys, h, n, rfl, hx0, hx1, hgh, hn, hh, hyl, HS⟩ := hrel
    by_cases hc : x < (ops.length : Int) ∧ x < 300
    · have hcb : decide (x < (ops.length : Int)) = true := decide_eq_true hc.1
      have hcb' : decide (x < 300) = true := decide_eq_true hc.2
      obtain ⟨ad, eA, Y0, Y1, Y2⟩ := at_T32 hC.out x hx0 hc.1
      cases eA
      obtain ⟨o, ho⟩ : ∃ o, rd_T32 ops x = o := ⟨_, rfl⟩
      obtain ⟨wh, N, V⟩ := o
      rw [ho] at Y0 Y1 Y2
      have Y0 := Aside0.mk Y0
      have Y1 := Aside0.mk Y1
      have Y2 := Aside0.mk Y2
      clear ho
      have y0 := (HS.out.bel.cell (World.block_lt_of_cell? W _ Y0.out)).trans Y0.out
      have y1 := (HS.out.bel.cell (World.block_lt_of_cell? W _ Y1.out)).trans Y1.out
      have y2 := (HS.out.bel.cell (World.block_lt_of_cell? W _ Y2.out)).trans Y2.out
      have p0 := eq_true hx0
      have q0 := eq_true hc.1
      have hyb : ys.length ≤ 1000000000000 := by omega
      cases wh
      case true =>
        obtain ⟨T, hT⟩ : ∃ T, tx true N V = T := ⟨_, rfl⟩
        have hTs := (htx.out true N V).1
        have hTc := (htx.out true N V).2
        rw [hT] at hTs hTc
        obtain ⟨ys2, hys2⟩ : ∃ ys2, wpadF ys h n ++ bytesOf T = ys2 := ⟨_, rfl⟩
        have hl2 : ys2.length ≤ ys.length + 51 := by
          have h1 : (wpadF ys h n).length ≤ ys.length + 1 := by unfold wpadF; split <;> simp
          rw [← hys2, List.length_append, bytesOf_length]
          omega
        have hcw : ∀ w, BW W w v u ys h n ys h n → Calls Try.prog 26 #[.pointer (some ⟨W.heap.size, 0, none⟩), .string T] w fun e w' => e = .returned (.tuple #[]) ∧ ∃ v', BW W w' v' u ys2 0 0 ys h n := fun w s => by
          have := bw_bytes s hn hh.out hyb T (by omega)
          rw [hys2] at this
          exact this
        have hcv : ∀ w v', BW W w v' u ys2 0 0 ys h n → Calls Try.prog 28 #[.pointer (some ⟨W.heap.size + 1, 0, none⟩), .string T] w fun e w' => e = .returned (.tuple #[]) ∧ ∃ u', BW W w' v' u' ys2 0 0 ys2 0 0 := fun w v' s => by
          have := bv_bytes s hyb T (by omega)
          rw [hys2] at this
          exact this
        have hyl2 : (ys2.length : Int) ≤ 60 * (x + 1) := by omega
        have hyl2 := Aside0.mk hyl2
        have hyb2 : ys2.length ≤ 1000000000000 := by omega
        have hn2 : 0 ≤ 7 := by omega
        have hh2 : Aside0 (0 < 2 ^ 0) := ⟨by decide⟩
        have hTc := Aside0.mk hTc
        have hcw := Aside0.mk hcw
        have hcv := Aside0.mk hcv
        clear hys2 hT hl2
        go_wp2_with (first | (go_at_call 27; refine (hTc.out _).mono ?_; rintro e w2 ⟨rfl, hb⟩; replace HS := Aside0.mk (HS.out.byN (Fr.of_below hb)); clear hb; replace y0 := (HS.out.bel.cell (World.block_lt_of_cell? W _ Y0.out)).trans Y0.out; replace y1 := (HS.out.bel.cell (World.block_lt_of_cell? W _ Y1.out)).trans Y1.out; replace y2 := (HS.out.bel.cell (World.block_lt_of_cell? W _ Y2.out)).trans Y2.out) | (go_at_call 26; refine (hcw.out _ HS.out).mono ?_; rintro e w3 ⟨rfl, v3, s3⟩; replace HS := Aside0.mk s3; clear s3; replace y0 := (HS.out.bel.cell (World.block_lt_of_cell? W _ Y0.out)).trans Y0.out; replace y1 := (HS.out.bel.cell (World.block_lt_of_cell? W _ Y1.out)).trans Y1.out; replace y2 := (HS.out.bel.cell (World.block_lt_of_cell? W _ Y2.out)).trans Y2.out) | (go_at_call 28; refine (hcv.out _ _ HS.out).mono ?_; rintro e w4 ⟨rfl, u4, s4⟩; replace HS := Aside0.mk s4; clear s4) | (go_at_call 31; refine (bw_text HS.out hn2 hh2.out hyb2).mono ?_; rintro e w5 ⟨rfl, s5⟩; replace HS := Aside0.mk s5; clear s5) | (go_at_call 32; refine (bv_text HS.out).mono ?_; rintro e w6 ⟨rfl, s6⟩; replace HS := Aside0.mk s6; clear s6))
        go_roundg (300 - (x + 1)).toNat
        case measure => omega
        case rel => exact ⟨x + 1, _, _, ys2, 0, 0, rfl, by omega, by omega, by omega, by omega, hh2, hyl2.out, HS⟩
      case false =>
        obtain ⟨⟨ys2, h2, n2⟩, hb⟩ : ∃ s, wbitsF ys h n V N = s := ⟨_, rfl⟩
        have hok := wbitsF_ok ys h n V N hh.out hn
        rw [hb] at hok
        have hcw : ∀ w, BW W w v u ys h n ys h n → Calls Try.prog 29 #[.pointer (some ⟨W.heap.size, 0, none⟩), .int .i64 V, .int .i64 N] w fun e w' => e = .returned (.tuple #[]) ∧ ∃ v', BW W w' v' u ys2 h2 n2 ys h n := fun w s => by
          have := bw_bits s hn hh.out hyb V N
          rw [hb] at this
          exact this
        have hcv : ∀ w v', BW W w v' u ys2 h2 n2 ys h n → Calls Try.prog 30 #[.pointer (some ⟨W.heap.size + 1, 0, none⟩), .int .i64 V, .int .i64 N] w fun e w' => e = .returned (.tuple #[]) ∧ ∃ u', BW W w' v' u' ys2 h2 n2 ys2 h2 n2 := fun w v' s => by
          have := bv_bits s hn hh.out hyb V N
          rw [hb] at this
          exact this
        have hn2 : n2 ≤ 7 := hok.2.1
        have hh2 : Aside0 (h2 < 2 ^ n2) := ⟨hok.1⟩
        have hl2 : 8 * ys2.length + n2 ≤ 8 * ys.length + n + 24 := hok.2.2
        have hyl2 : (ys2.length : Int) ≤ 60 * (x + 1) := by clear hok; omega
        have hyl2 := Aside0.mk hyl2
        have hyb2 : ys2.length ≤ 1000000000000 := by clear hok; omega
        have hcw := Aside0.mk hcw
        have hcv := Aside0.mk hcv
        clear hb hl2 hok
        go_wp2
        refine start_ (n := 12) (S := fun w' => w'.cell? ⟨(ad.add (x.toNat * 3)).block, (ad.add (x.toNat * 3)).off + 1, none⟩ = some (.int .i64 N) ∧ w'.cell? ⟨(ad.add (x.toNat * 3)).block, (ad.add (x.toNat * 3)).off + 2, none⟩ = some (.int .i64 V)) (ds := [11]) #[false, false, false, false, false, false, false, false, false, false, false, false] (by kernel_rfl) rfl rfl ⟨y1, y2⟩ (fun hHeld => ?_)
        refine pure_ (i := 0) (N := some 40) (v := ?_) (a' := ?_) #[true, false, false, false, false, false, false, false, false, false, false, false] rfl rfl (by kernel_rfl) (fun _ _ _ h => h) (Or.inl ⟨by rfl, ?_⟩) ?_ ?_
        rotate_left
        · intro w'
          go_simp
          with_reducible rfl
        rotate_left
        · simp only [Act.put, List.setIfInBounds_toArray, List.set_cons_zero, List.set_cons_succ, i64_w, i32_w]
          rfl
        refine pure_ (i := 1) (N := some 41) (v := ?_) (a' := ?_) #[true, true, false, false, false, false, false, false, false, false, false, false] rfl rfl (by kernel_rfl) (fun _ _ _ h => h) (Or.inl ⟨by rfl, ?_⟩) ?_ ?_
        rotate_left
        · intro w'
          go_simp
          with_reducible rfl
        rotate_left
        · simp only [Act.put, List.setIfInBounds_toArray, List.set_cons_zero, List.set_cons_succ, i64_w, i32_w]
          rfl
        refine pure_ (i := 2) (N := some 42) (v := ?_) (a' := ?_) #[true, true, true, false, false, false, false, false, false, false, false, false] rfl rfl (by kernel_rfl) (fun _ _ _ h => h) (Or.inl ⟨by rfl, ?_⟩) ?_ ?_
        rotate_left
        · intro w'
          go_simp
          with_reducible rfl
        rotate_left
        · simp only [Act.put, List.setIfInBounds_toArray, List.set_cons_zero, List.set_cons_succ, i64_w, i32_w]
          rfl
        refine pure_ (i := 3) (N := some 43) (v := ?_) (a' := ?_) #[true, true, true, true, false, false, false, false, false, false, false, false] rfl rfl (by kernel_rfl) (fun _ _ _ h => h) (Or.inl ⟨by rfl, ?_⟩) ?_ ?_
        rotate_left
        · intro w'
          go_simp
          with_reducible rfl
        rotate_left
        · simp only [Act.put, List.setIfInBounds_toArray, List.set_cons_zero, List.set_cons_succ, i64_w, i32_w]
          rfl
        refine pure_ (i := 4) (N := some 44) (v := ?_) (a' := ?_) #[true, true, true, true, true, false, false, false, false, false, false, false] rfl rfl (by kernel_rfl) (fun _ _ _ h => h) (Or.inl ⟨by rfl, ?_⟩) ?_ ?_
        rotate_left
        · intro w'
          go_simp
          with_reducible rfl
        rotate_left
        · simp only [Act.put, List.setIfInBounds_toArray, List.set_cons_zero, List.set_cons_succ, i64_w, i32_w]
          rfl
        refine pure_ (i := 6) (N := some 46) (v := ?_) (a' := ?_) #[true, true, true, true, true, false, true, false, false, false, false, false] rfl rfl (by kernel_rfl) (fun _ _ _ h => h) (Or.inl ⟨by rfl, ?_⟩) ?_ ?_
        rotate_left
        · intro w'
          go_simp
          with_reducible rfl
        rotate_left
        · simp only [Act.put, List.setIfInBounds_toArray, List.set_cons_zero, List.set_cons_succ, i64_w, i32_w]
          rfl
        refine pure_ (i := 7) (N := some 47) (v := ?_) (a' := ?_) #[true, true, true, true, true, false, true, true, false, false, false, false] rfl rfl (by kernel_rfl) (fun _ _ _ h => h) (Or.inl ⟨by rfl, ?_⟩) ?_ ?_
        rotate_left
        · intro w'
          go_simp
          with_reducible rfl
        rotate_left
        · simp only [Act.put, List.setIfInBounds_toArray, List.set_cons_zero, List.set_cons_succ, i64_w, i32_w]
          rfl
        refine pure_ (i := 8) (N := some 48) (v := ?_) (a' := ?_) #[true, true, true, true, true, false, true, true, true, false, false, false] rfl rfl (by kernel_rfl) (fun _ _ _ h => h) (Or.inl ⟨by rfl, ?_⟩) ?_ ?_
        rotate_left
        · intro w'
          go_simp
          with_reducible rfl
        rotate_left
        · simp only [Act.put, List.setIfInBounds_toArray, List.set_cons_zero, List.set_cons_succ, i64_w, i32_w]
          rfl
        refine pure_ (i := 9) (N := some 49) (v := ?_) (a' := ?_) #[true, true, true, true, true, false, true, true, true, true, false, false] rfl rfl (by kernel_rfl) (fun _ _ _ h => h) (Or.inl ⟨by rfl, ?_⟩) ?_ ?_
        rotate_left
        · intro w'
          go_simp
          with_reducible rfl
        rotate_left
        · simp only [Act.put, List.setIfInBounds_toArray, List.set_cons_zero, List.set_cons_succ, i64_w, i32_w]
          rfl
        refine take_ (i := 5) (N := some 45) (v := ?_) (a' := ?_) #[true, true, true, true, true, true, true, true, true, true, false, false] rfl rfl (by kernel_rfl) (fun _ _ _ h => h) (Or.inl ⟨by rfl, ?_⟩) hHeld ?_ ?_
        rotate_left
        · rintro w' ⟨s0, s1⟩
          go_simp
          with_reducible rfl
        rotate_left
        · simp only [Act.put, List.setIfInBounds_toArray, List.set_cons_zero, List.set_cons_succ, i64_w, i32_w]
          rfl
        refine take_ (i := 10) (N := some 50) (v := ?_) (a' := ?_) #[true, true, true, true, true, true, true, true, true, true, true, false] rfl rfl (by kernel_rfl) (fun _ _ _ h => h) (Or.inl ⟨by rfl, ?_⟩) hHeld ?_ ?_
        rotate_left
        · rintro w' ⟨s0, s1⟩
          go_simp
          with_reducible rfl
        rotate_left
        · simp only [Act.put, List.setIfInBounds_toArray, List.set_cons_zero, List.set_cons_succ, i64_w, i32_w]
          rfl
        refine last_ (i := 11) (N := some 51) #[true, true, true, true, true, true, true, true, true, true, true, true] rfl rfl (by kernel_rfl) (by decide) (fun K hK => ?_)
        refine goes_ Try.func29 (by kernel_rfl) rfl #[.pointer (some ⟨W.heap.size, 0, none⟩), .int .i64 V, .int .i64 N] (by rfl) rfl rfl (by simp only [List.map_toArray, List.map_cons, List.map_nil]; rfl) ?_
        with_reducible refine (hcw.out _ (HS.out.byN ((Fr.refl _ _).drew))).mono ?_
        rintro e w2 ⟨rfl, v2, s2⟩
        refine ⟨_, rfl, ?_⟩
        refine hK.out _ _ ?_
        clear hK K
        refine norm_ (a' := ?_) ?_ ?_
        rotate_left
        · show Act.put _ (some 51) _ = _
          simp only [Act.put, List.setIfInBounds_toArray, List.set_cons_zero, List.set_cons_succ, i64_w, i32_w]
          rfl
        refine done_ (by kernel_rfl) ?_
        clear hHeld
        replace HS := Aside0.mk s2
        clear s2
        replace y1 := (HS.out.bel.cell (World.block_lt_of_cell? W _ Y1.out)).trans Y1.out
        replace y2 := (HS.out.bel.cell (World.block_lt_of_cell? W _ Y2.out)).trans Y2.out
        go_wp2
        refine start_ (n := 12) (S := fun w' => w'.cell? ⟨(ad.add (x.toNat * 3)).block, (ad.add (x.toNat * 3)).off + 1, none⟩ = some (.int .i64 N) ∧ w'.cell? ⟨(ad.add (x.toNat * 3)).block, (ad.add (x.toNat * 3)).off + 2, none⟩ = some (.int .i64 V)) (ds := [11]) #[false, false, false, false, false, false, false, false, false, false, false, false] (by kernel_rfl) rfl rfl ⟨y1, y2⟩ (fun hHeld => ?_)
        refine pure_ (i := 0) (N := some 52) (v := ?_) (a' := ?_) #[true, false, false, false, false, false, false, false, false, false, false, false] rfl rfl (by kernel_rfl) (fun _ _ _ h => h) (Or.inl ⟨by rfl, ?_⟩) ?_ ?_
        rotate_left
        · intro w'
          go_simp
          with_reducible rfl
        rotate_left
        · simp only [Act.put, List.setIfInBounds_toArray, List.set_cons_zero, List.set_cons_succ, i64_w, i32_w]
          rfl
        refine pure_ (i := 1) (N := some 53) (v := ?_) (a' := ?_) #[true, true, false, false, false, false, false, false, false, false, false, false] rfl rfl (by kernel_rfl) (fun _ _ _ h => h) (Or.inl ⟨by rfl, ?_⟩) ?_ ?_
        rotate_left
        · intro w'
          go_simp
          with_reducible rfl
        rotate_left
        · simp only [Act.put, List.setIfInBounds_toArray, List.set_cons_zero, List.set_cons_succ, i64_w, i32_w]
          rfl
        refine pure_ (i := 2) (N := some 54) (v := ?_) (a' := ?_) #[true, true, true, false, false, false, false, false, false, false, false, false] rfl rfl (by kernel_rfl) (fun _ _ _ h => h) (Or.inl ⟨by rfl, ?_⟩) ?_ ?_
        rotate_left
        · intro w'
          go_simp
          with_reducible rfl
        rotate_left
        · simp only [Act.put, List.setIfInBounds_toArray, List.set_cons_zero, List.set_cons_succ, i64_w, i32_w]
          rfl
        refine pure_ (i := 3) (N := some 55) (v := ?_) (a' := ?_) #[true, true, true, true, false, false, false, false, false, false, false, false] rfl rfl (by kernel_rfl) (fun _ _ _ h => h) (Or.inl ⟨by rfl, ?_⟩) ?_ ?_
        rotate_left
        · intro w'
          go_simp
          with_reducible rfl
        rotate_left
        · simp only [Act.put, List.setIfInBounds_toArray, List.set_cons_zero, List.set_cons_succ, i64_w, i32_w]
          rfl
        refine pure_ (i := 4) (N := some 56) (v := ?_) (a' := ?_) #[true, true, true, true, true, false, false, false, false, false, false, false] rfl rfl (by kernel_rfl) (fun _ _ _ h => h) (Or.inl ⟨by rfl, ?_⟩) ?_ ?_
        rotate_left
        · intro w'
          go_simp
          with_reducible rfl
        rotate_left
        · simp only [Act.put, List.setIfInBounds_toArray, List.set_cons_zero, List.set_cons_succ, i64_w, i32_w]
          rfl
        refine pure_ (i := 6) (N := some 58) (v := ?_) (a' := ?_) #[true, true, true, true, true, false, true, false, false, false, false, false] rfl rfl (by kernel_rfl) (fun _ _ _ h => h) (Or.inl ⟨by rfl, ?_⟩) ?_ ?_
        rotate_left
        · intro w'
          go_simp
          with_reducible rfl
        rotate_left
        · simp only [Act.put, List.setIfInBounds_toArray, List.set_cons_zero, List.set_cons_succ, i64_w, i32_w]
          rfl
        refine pure_ (i := 7) (N := some 59) (v := ?_) (a' := ?_) #[true, true, true, true, true, false, true, true, false, false, false, false] rfl rfl (by kernel_rfl) (fun _ _ _ h => h) (Or.inl ⟨by rfl, ?_⟩) ?_ ?_
        rotate_left
        · intro w'
          go_simp
          with_reducible rfl
        rotate_left
        · simp only [Act.put, List.setIfInBounds_toArray, List.set_cons_zero, List.set_cons_succ, i64_w, i32_w]
          rfl
        refine pure_ (i := 8) (N := some 60) (v := ?_) (a' := ?_) #[true, true, true, true, true, false, true, true, true, false, false, false] rfl rfl (by kernel_rfl) (fun _ _ _ h => h) (Or.inl ⟨by rfl, ?_⟩) ?_ ?_
        rotate_left
        · intro w'
          go_simp
          with_reducible rfl
        rotate_left
        · simp only [Act.put, List.setIfInBounds_toArray, List.set_cons_zero, List.set_cons_succ, i64_w, i32_w]
          rfl
        refine pure_ (i := 9) (N := some 61) (v := ?_) (a' := ?_) #[true, true, true, true, true, false, true, true, true, true, false, false] rfl rfl (by kernel_rfl) (fun _ _ _ h => h) (Or.inl ⟨by rfl, ?_⟩) ?_ ?_
        rotate_left
        · intro w'
          go_simp
          with_reducible rfl
        rotate_left
        · simp only [Act.put, List.setIfInBounds_toArray, List.set_cons_zero, List.set_cons_succ, i64_w, i32_w]
          rfl
        refine take_ (i := 5) (N := some 57) (v := ?_) (a' := ?_) #[true, true, true, true, true, true, true, true, true, true, false, false] rfl rfl (by kernel_rfl) (fun _ _ _ h => h) (Or.inl ⟨by rfl, ?_⟩) hHeld ?_ ?_
        rotate_left
        · rintro w' ⟨s0, s1⟩
          go_simp
          with_reducible rfl
        rotate_left
        · simp only [Act.put, List.setIfInBounds_toArray, List.set_cons_zero, List.set_cons_succ, i64_w, i32_w]
          rfl
        refine take_ (i := 10) (N := some 62) (v := ?_) (a' := ?_) #[true, true, true, true, true, true, true, true, true, true, true, false] rfl rfl (by kernel_rfl) (fun _ _ _ h => h) (Or.inl ⟨by rfl, ?_⟩) hHeld ?_ ?_
        rotate_left
        · rintro w' ⟨s0, s1⟩
          go_simp
          with_reducible rfl
        rotate_left
        · simp only [Act.put, List.setIfInBounds_toArray, List.set_cons_zero, List.set_cons_succ, i64_w, i32_w]
          rfl
        refine last_ (i := 11) (N := some 63) #[true, true, true, true, true, true, true, true, true, true, true, true] rfl rfl (by kernel_rfl) (by decide) (fun K hK => ?_)
        refine goes_ Try.func30 (by kernel_rfl) rfl #[.pointer (some ⟨W.heap.size + 1, 0, none⟩), .int .i64 V, .int .i64 N] (by rfl) rfl rfl (by simp only [List.map_toArray, List.map_cons, List.map_nil]; rfl) ?_
        with_reducible refine (hcv.out _ _ (HS.out.byN ((Fr.refl _ _).drew))).mono ?_
        rintro e w4 ⟨rfl, u4, s4⟩
        refine ⟨_, rfl, ?_⟩
        refine hK.out _ _ ?_
        clear hK K
        refine norm_ (a' := ?_) ?_ ?_
        rotate_left
        · show Act.put _ (some 63) _ = _
          simp only [Act.put, List.setIfInBounds_toArray, List.set_cons_zero, List.set_cons_succ, i64_w, i32_w]
          rfl
        refine done_ (by kernel_rfl) ?_
        clear hHeld
        replace HS := Aside0.mk s4
        clear s4
        go_wp2_with (first | (go_at_call 31; refine (bw_text HS.out hn2 hh2.out hyb2).mono ?_; rintro e w5 ⟨rfl, s5⟩; replace HS := Aside0.mk s5; clear s5) | (go_at_call 32; refine (bv_text HS.out).mono ?_; rintro e w6 ⟨rfl, s6⟩; replace HS := Aside0.mk s6; clear s6))
        go_roundg (300 - (x + 1)).toNat
        case measure => omega
        case rel => exact ⟨x + 1, _, _, ys2, h2, n2, rfl, by omega, by omega, by omega, hn2, hh2, hyl2.out, HS⟩
    · have hout : decide (x < (ops.length : Int)) = false ∨ (decide (x < (ops.length : Int)) = true ∧ decide (x < 300) = false) := by
        by_cases h1 : x < (ops.length : Int)
        · exact .inr ⟨decide_eq_true h1, decide_eq_false (fun h2 => hc ⟨h1, h2⟩)⟩
        · exact .inl (decide_eq_false h1)
      rcases hout with ho | ⟨ho, ho'⟩
      all_goals
        go_wp2_with (go_at_call 17; refine (hAw _).mono ?_; rintro e w6 ⟨rfl, hbel⟩)
        go_ret
        exact ⟨rfl, HS.out.bel.trans (hbel.mono HS.out.bel.size)⟩
end Go.Proofs.Ytpldapjcojjicaa.B
