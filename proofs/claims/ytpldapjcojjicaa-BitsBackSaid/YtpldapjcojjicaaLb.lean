/- BitsBack: the walk: what is laid is read by the same calls. -/
import Derived.Test.YtpldapjcojjicaaBk
namespace Go.Proofs.Ytpldapjcojjicaa.B
open Go.RowKit Go.Proofs.YtpldapjcojjicaaW.PrintWords Go.Proofs.YtpldapjcojjicaaW.PrintLast Go.Proofs.Ytpldapjcojjicaa.Pb
set_option linter.unusedVariables false
set_option linter.unusedSimpArgs false

/-- The writer, made since W. -/
structure BO (W w : World) (v : Value) (s : List Int × Nat × Nat) : Prop where
  w1 : IsW w W.heap.size v s.2.1 s.2.2
  r1 : Row w W.heap.size v s.1
  bel : Below W.heap.size W w
theorem BO.byN {W w w' : World} {v : Value} {s : List Int × Nat × Nat} (h : BO W w v s) (hf : Fr (fun _ => False) w w') : BO W w' v s :=
  ⟨hf.blk h.w1 (fun e => e), hf.own h.r1 (fun _ _ e => e), h.bel.trans (hf.to_below (fun _ _ _ e => e) h.bel.size)⟩
theorem BO.byW {W w w' : World} {v v' : Value} {s : List Int × Nat × Nat} {ys' : List Int} {h' n' : Nat} (h : BO W w v s) (hP : WPost w w' W.heap.size W.heap.size v v' ys' h' n') : BO W w' v' (ys', h', n') :=
  ⟨hP.st, hP.row, h.bel.trans ((hP.frB h.r1 (Nat.le_refl _)).to_below (fun k hk _ => by omega) h.bel.size)⟩
theorem bo_start (W : World) : BO W (W.alloc (.cells #[.slice none 0 0, .int .i64 0, .int .i64 0] 77)) (.slice none 0 0) ([], 0, 0) :=
  ⟨heap_alloc_new W _, World.ownsRow_nil _ _ _ _, ((Fr.refl (fun _ => False) W).alloc _).to_below (fun _ _ _ e => e) (Nat.le_refl _)⟩
theorem bo_bits {W w : World} {v : Value} {s : List Int × Nat × Nat} (h : BO W w v s) (hl : Laid s) (hx : s.1.length ≤ 1000000000000) (x k : Int) :
    Calls Try.prog 29 #[.pointer (some ⟨W.heap.size, 0, none⟩), .int .i64 x, .int .i64 k] w fun e w' => e = .returned (.tuple #[]) ∧ ∃ v', BO W w' v' (wbitsF s.1 s.2.1 s.2.2 x k) := by
  refine (wbits_calls w W.heap.size W.heap.size v s.1 s.2.1 s.2.2 x k h.w1 h.r1 h.bel.size hl.hn hl.hh hx).mono ?_
  rintro e w' ⟨rfl, v', hP⟩
  exact ⟨rfl, v', h.byW hP⟩
theorem bo_bytes {W w : World} {v : Value} {s : List Int × Nat × Nat} (h : BO W w v s) (hl : Laid s) (hx : s.1.length ≤ 1000000000000) (t : ByteArray) (ht : t.size ≤ 1000000000000) :
    Calls Try.prog 26 #[.pointer (some ⟨W.heap.size, 0, none⟩), .string t] w fun e w' => e = .returned (.tuple #[]) ∧ ∃ v', BO W w' v' (wpadF s.1 s.2.1 s.2.2 ++ bytesOf t, 0, 0) := by
  refine (wbytes_calls w W.heap.size W.heap.size v s.1 s.2.1 s.2.2 t h.w1 h.r1 h.bel.size hl.hn hl.hh hx ht).mono ?_
  rintro e w' ⟨rfl, v', hP⟩
  exact ⟨rfl, v', h.byW hP⟩
theorem bo_text {W w : World} {v : Value} {s : List Int × Nat × Nat} (h : BO W w v s) (hl : Laid s) (hx : s.1.length ≤ 1000000000000) :
    Calls Try.prog 31 #[.pointer (some ⟨W.heap.size, 0, none⟩)] w fun e w' => e = .returned (.string (wtextF s.1 s.2.1 s.2.2)) ∧ Below W.heap.size W w' := by
  refine (wtext_calls w W.heap.size W.heap.size v s.1 s.2.1 s.2.2 h.w1 h.r1 hl.hn hl.hh hx).mono ?_
  rintro e w' ⟨rfl, hf⟩
  exact ⟨rfl, (h.byN hf).bel⟩
/-- The reader, made since W. -/
structure BQ (W w : World) (G : Nat) (S d : ByteArray) (h n a : Nat) : Prop where
  rd : IsR w G d h n
  G0 : W.heap.size ≤ G
  bel : Below W.heap.size W w
  R : Rel S d h n a
theorem BQ.byN {W w w' : World} {G : Nat} {S d : ByteArray} {h n a : Nat} (s : BQ W w G S d h n a) (hf : Fr (fun _ => False) w w') : BQ W w' G S d h n a :=
  ⟨hf.blk s.rd (fun e => e), s.G0, s.bel.trans (hf.to_below (fun _ _ _ e => e) s.bel.size), s.R⟩
theorem BQ.byR {W w w' : World} {G : Nat} {S d : ByteArray} {h n a : Nat} {d1 : ByteArray} {h1 n1 a1 : Nat} (s : BQ W w G S d h n a) (hr : IsR w' G d1 h1 n1) (hf : Fr (· = G) w w') (hR : Rel S d1 h1 n1 a1) : BQ W w' G S d1 h1 n1 a1 :=
  ⟨hr, s.G0, s.bel.trans (hf.to_below (fun k hk _ e => by subst e; exact Nat.not_lt.2 s.G0 hk) s.bel.size), hR⟩
theorem and_low (V : Int) (q : Nat) (hq : q ≤ 24) : Go.bits .and .i64 V (wrap64 (wrap64 (2 ^ q) - 1)) = V % 2 ^ q := by
  rw [mask_w q (by omega), and_mask V q (by omega)]

set_option maxHeartbeats 4000000 in
set_option maxRecDepth 100000 in
theorem bback_calls (W : World) (A : Option Addr) (c : Nat) (ops : List S32) (hC : Kd.C k32 W A ops.length ops) :
    Calls Try.prog 6 #[.slice A ops.length c] W fun e W' => e = .returned (.bool true) ∧ Below W.heap.size W W' := by
  have hC := Aside0.mk hC
  have hAw : ∀ w, Calls Try.prog 17 #[] w fun e w' => e = .returned (.bool true) ∧ Below w.heap.size w w' := fun w => vitrinelaw01_awake.calls true w rfl
  obtain ⟨tx, htx⟩ := text_all
  have hlen := stAt_len tx (fun a b c => (htx a b c).1) ops
  have hlen := Aside0.mk hlen
  have htx := Aside0.mk htx
  go_enter Try.func6, Try.ntmps6
  go_wp2_with (go_at_call 25; refine (new_calls W).mono ?_; rintro e w1 ⟨rfl, rfl⟩)
  have HS0 := Aside0.mk (bo_start W)
  go_loopg [4] 300 (fun gh v4 wr => ∃ (x : Int) (v : Value), v4 = .int .i64 x ∧ 0 ≤ x ∧ x ≤ 300 ∧ x ≤ (ops.length : Int) ∧ 300 - x ≤ gh ∧ Aside0 (BO W wr v (stAt tx ops x.toNat)))
  case atStart => exact ⟨0, _, rfl, by omega, by omega, by omega, by omega, HS0⟩
  case round =>
    clear HS0
    obtain ⟨x, v, rfl, hx0, hx1, hx2, hgh, HS⟩ := hrel
    by_cases hc : x < (ops.length : Int) ∧ x < 300
    · have hcb : decide (x < (ops.length : Int)) = true := decide_eq_true hc.1
      have hcb' : decide (x < 300) = true := decide_eq_true hc.2
      obtain ⟨ad, eA, Y0, Y1, Y2⟩ := at_T32 hC.out x hx0 hc.1
      cases eA
      have hst : stAt tx ops (x + 1).toNat = stp tx (rd_T32 ops x) (stAt tx ops x.toNat) := by
        rw [show (x + 1).toNat = x.toNat + 1 by omega]
        show stp tx (rd_T32 ops ((x.toNat : Nat) : Int)) _ = _
        rw [Int.toNat_of_nonneg hx0]
      obtain ⟨o, ho⟩ : ∃ o, rd_T32 ops x = o := ⟨_, rfl⟩
      rw [ho] at hst
      obtain ⟨wh, N, V⟩ := o
      rw [ho] at Y0 Y1 Y2
      have Y0 := Aside0.mk Y0
      have Y1 := Aside0.mk Y1
      have Y2 := Aside0.mk Y2
      clear ho
      have hsl := Aside0.mk (stAt_laid tx ops x.toNat)
      have hsb : (stAt tx ops x.toNat).1.length ≤ 1000000000000 := by have := hlen.out x.toNat; omega
      have y0 := (HS.out.bel.cell (World.block_lt_of_cell? W _ Y0.out)).trans Y0.out
      have y1 := (HS.out.bel.cell (World.block_lt_of_cell? W _ Y1.out)).trans Y1.out
      have y2 := (HS.out.bel.cell (World.block_lt_of_cell? W _ Y2.out)).trans Y2.out
      have p0 := eq_true hx0
      have q0 := eq_true hc.1
      cases wh
      case true =>
        obtain ⟨T, hT⟩ : ∃ T, tx true N V = T := ⟨_, rfl⟩
        have hTs := (htx.out true N V).1
        have hTc := (htx.out true N V).2
        rw [hT] at hTs hTc
        have hst2 : stAt tx ops (x + 1).toNat = (wpadF (stAt tx ops x.toNat).1 (stAt tx ops x.toNat).2.1 (stAt tx ops x.toNat).2.2 ++ bytesOf T, 0, 0) := by
          rw [hst, ← hT]
          rfl
        have hcw : ∀ w, BO W w v (stAt tx ops x.toNat) → Calls Try.prog 26 #[.pointer (some ⟨W.heap.size, 0, none⟩), .string T] w fun e w' => e = .returned (.tuple #[]) ∧ ∃ v', BO W w' v' (stAt tx ops (x + 1).toNat) := fun w s => by
          rw [hst2]
          exact bo_bytes s hsl.out hsb T (by omega)
        have hTc := Aside0.mk hTc
        have hcw := Aside0.mk hcw
        clear hst hst2 hT
        go_wp2_with (first | (go_at_call 27; refine (hTc.out _).mono ?_; rintro e w2 ⟨rfl, hb⟩; replace HS := Aside0.mk (HS.out.byN (Fr.of_below hb)); clear hb) | (go_at_call 26; refine (hcw.out _ HS.out).mono ?_; rintro e w3 ⟨rfl, v3, s3⟩; have HS3 := Aside0.mk s3; clear s3))
        go_roundg (300 - (x + 1)).toNat
        case measure => omega
        case rel => exact ⟨x + 1, _, rfl, by omega, by omega, by omega, by omega, HS3⟩
      case false =>
        have hst2 : stAt tx ops (x + 1).toNat = wbitsF (stAt tx ops x.toNat).1 (stAt tx ops x.toNat).2.1 (stAt tx ops x.toNat).2.2 V N := by
          rw [hst]
          rfl
        have hcw : ∀ w, BO W w v (stAt tx ops x.toNat) → Calls Try.prog 29 #[.pointer (some ⟨W.heap.size, 0, none⟩), .int .i64 V, .int .i64 N] w fun e w' => e = .returned (.tuple #[]) ∧ ∃ v', BO W w' v' (stAt tx ops (x + 1).toNat) := fun w s => by
          rw [hst2]
          exact bo_bits s hsl.out hsb V N
        have hcw := Aside0.mk hcw
        clear hst hst2
        go_wp2
        refine start_ (n := 12) (S := fun w' => w'.cell? ⟨(ad.add (x.toNat * 3)).block, (ad.add (x.toNat * 3)).off + 1, none⟩ = some (.int .i64 N) ∧ w'.cell? ⟨(ad.add (x.toNat * 3)).block, (ad.add (x.toNat * 3)).off + 2, none⟩ = some (.int .i64 V)) (ds := [11]) #[false, false, false, false, false, false, false, false, false, false, false, false] (by kernel_rfl) rfl rfl ⟨y1, y2⟩ (fun hHeld => ?_)
        refine pure_ (i := 0) (N := some 38) (v := ?_) (a' := ?_) #[true, false, false, false, false, false, false, false, false, false, false, false] rfl rfl (by kernel_rfl) (fun _ _ _ h => h) (Or.inl ⟨by rfl, ?_⟩) ?_ ?_
        rotate_left
        · intro w'
          go_simp
          with_reducible rfl
        rotate_left
        · simp only [Act.put, List.setIfInBounds_toArray, List.set_cons_zero, List.set_cons_succ, i64_w, i32_w]
          rfl
        refine pure_ (i := 1) (N := some 39) (v := ?_) (a' := ?_) #[true, true, false, false, false, false, false, false, false, false, false, false] rfl rfl (by kernel_rfl) (fun _ _ _ h => h) (Or.inl ⟨by rfl, ?_⟩) ?_ ?_
        rotate_left
        · intro w'
          go_simp
          with_reducible rfl
        rotate_left
        · simp only [Act.put, List.setIfInBounds_toArray, List.set_cons_zero, List.set_cons_succ, i64_w, i32_w]
          rfl
        refine pure_ (i := 2) (N := some 40) (v := ?_) (a' := ?_) #[true, true, true, false, false, false, false, false, false, false, false, false] rfl rfl (by kernel_rfl) (fun _ _ _ h => h) (Or.inl ⟨by rfl, ?_⟩) ?_ ?_
        rotate_left
        · intro w'
          go_simp
          with_reducible rfl
        rotate_left
        · simp only [Act.put, List.setIfInBounds_toArray, List.set_cons_zero, List.set_cons_succ, i64_w, i32_w]
          rfl
        refine pure_ (i := 3) (N := some 41) (v := ?_) (a' := ?_) #[true, true, true, true, false, false, false, false, false, false, false, false] rfl rfl (by kernel_rfl) (fun _ _ _ h => h) (Or.inl ⟨by rfl, ?_⟩) ?_ ?_
        rotate_left
        · intro w'
          go_simp
          with_reducible rfl
        rotate_left
        · simp only [Act.put, List.setIfInBounds_toArray, List.set_cons_zero, List.set_cons_succ, i64_w, i32_w]
          rfl
        refine pure_ (i := 4) (N := some 42) (v := ?_) (a' := ?_) #[true, true, true, true, true, false, false, false, false, false, false, false] rfl rfl (by kernel_rfl) (fun _ _ _ h => h) (Or.inl ⟨by rfl, ?_⟩) ?_ ?_
        rotate_left
        · intro w'
          go_simp
          with_reducible rfl
        rotate_left
        · simp only [Act.put, List.setIfInBounds_toArray, List.set_cons_zero, List.set_cons_succ, i64_w, i32_w]
          rfl
        refine pure_ (i := 6) (N := some 44) (v := ?_) (a' := ?_) #[true, true, true, true, true, false, true, false, false, false, false, false] rfl rfl (by kernel_rfl) (fun _ _ _ h => h) (Or.inl ⟨by rfl, ?_⟩) ?_ ?_
        rotate_left
        · intro w'
          go_simp
          with_reducible rfl
        rotate_left
        · simp only [Act.put, List.setIfInBounds_toArray, List.set_cons_zero, List.set_cons_succ, i64_w, i32_w]
          rfl
        refine pure_ (i := 7) (N := some 45) (v := ?_) (a' := ?_) #[true, true, true, true, true, false, true, true, false, false, false, false] rfl rfl (by kernel_rfl) (fun _ _ _ h => h) (Or.inl ⟨by rfl, ?_⟩) ?_ ?_
        rotate_left
        · intro w'
          go_simp
          with_reducible rfl
        rotate_left
        · simp only [Act.put, List.setIfInBounds_toArray, List.set_cons_zero, List.set_cons_succ, i64_w, i32_w]
          rfl
        refine pure_ (i := 8) (N := some 46) (v := ?_) (a' := ?_) #[true, true, true, true, true, false, true, true, true, false, false, false] rfl rfl (by kernel_rfl) (fun _ _ _ h => h) (Or.inl ⟨by rfl, ?_⟩) ?_ ?_
        rotate_left
        · intro w'
          go_simp
          with_reducible rfl
        rotate_left
        · simp only [Act.put, List.setIfInBounds_toArray, List.set_cons_zero, List.set_cons_succ, i64_w, i32_w]
          rfl
        refine pure_ (i := 9) (N := some 47) (v := ?_) (a' := ?_) #[true, true, true, true, true, false, true, true, true, true, false, false] rfl rfl (by kernel_rfl) (fun _ _ _ h => h) (Or.inl ⟨by rfl, ?_⟩) ?_ ?_
        rotate_left
        · intro w'
          go_simp
          with_reducible rfl
        rotate_left
        · simp only [Act.put, List.setIfInBounds_toArray, List.set_cons_zero, List.set_cons_succ, i64_w, i32_w]
          rfl
        refine take_ (i := 5) (N := some 43) (v := ?_) (a' := ?_) #[true, true, true, true, true, true, true, true, true, true, false, false] rfl rfl (by kernel_rfl) (fun _ _ _ h => h) (Or.inl ⟨by rfl, ?_⟩) hHeld ?_ ?_
        rotate_left
        · rintro w' ⟨s0, s1⟩
          go_simp
          with_reducible rfl
        rotate_left
        · simp only [Act.put, List.setIfInBounds_toArray, List.set_cons_zero, List.set_cons_succ, i64_w, i32_w]
          rfl
        refine take_ (i := 10) (N := some 48) (v := ?_) (a' := ?_) #[true, true, true, true, true, true, true, true, true, true, true, false] rfl rfl (by kernel_rfl) (fun _ _ _ h => h) (Or.inl ⟨by rfl, ?_⟩) hHeld ?_ ?_
        rotate_left
        · rintro w' ⟨s0, s1⟩
          go_simp
          with_reducible rfl
        rotate_left
        · simp only [Act.put, List.setIfInBounds_toArray, List.set_cons_zero, List.set_cons_succ, i64_w, i32_w]
          rfl
        refine last_ (i := 11) (N := some 49) #[true, true, true, true, true, true, true, true, true, true, true, true] rfl rfl (by kernel_rfl) (by decide) (fun K hK => ?_)
        refine goes_ Try.func29 (by kernel_rfl) rfl #[.pointer (some ⟨W.heap.size, 0, none⟩), .int .i64 V, .int .i64 N] (by rfl) rfl rfl (by simp only [List.map_toArray, List.map_cons, List.map_nil]; rfl) ?_
        with_reducible refine (hcw.out _ (HS.out.byN ((Fr.refl _ _).drew))).mono ?_
        rintro e w2 ⟨rfl, v2, s2⟩
        refine ⟨_, rfl, ?_⟩
        refine hK.out _ _ ?_
        clear hK K
        refine norm_ (a' := ?_) ?_ ?_
        rotate_left
        · show Act.put _ (some 49) _ = _
          simp only [Act.put, List.setIfInBounds_toArray, List.set_cons_zero, List.set_cons_succ, i64_w, i32_w]
          rfl
        refine done_ (by kernel_rfl) ?_
        clear hHeld
        have HS3 := Aside0.mk s2
        clear s2
        go_wp2
        go_roundg (300 - (x + 1)).toNat
        case measure => omega
        case rel => exact ⟨x + 1, _, rfl, by omega, by omega, by omega, by omega, HS3⟩
    · obtain ⟨m, hm⟩ : ∃ m, x.toNat = m := ⟨_, rfl⟩
      have hm1 : m ≤ 300 := by omega
      have hm2 : m ≤ ops.length := by omega
      have hm3 : ¬ (m < ops.length ∧ m < 300) := fun h => hc (by omega)
      have hsl := Aside0.mk (stAt_laid tx ops m)
      have hsb : (stAt tx ops m).1.length ≤ 1000000000000 := by have := hlen.out m; omega
      have hFs : (fin tx ops m).size ≤ 100000 := by
        have := (fin_num tx ops m).2.2
        have h2 := hlen.out m
        have h3 := hsl.out.hn
        unfold tl at this
        omega
      rw [hm] at HS
      have hct := Aside0.mk (bo_text HS.out hsl.out hsb)
      have hout : decide (x < (ops.length : Int)) = false ∨ (decide (x < (ops.length : Int)) = true ∧ decide (x < 300) = false) := by
        by_cases h1 : x < (ops.length : Int)
        · exact .inr ⟨decide_eq_true h1, decide_eq_false (fun h2 => hc ⟨h1, h2⟩)⟩
        · exact .inl (decide_eq_false h1)
      clear hm hc hgh hx0 hx1 hx2
      rcases hout with ho | ⟨ho, ho'⟩
      all_goals
        go_wp2_with (first | (go_at_call 31; refine (hct.out).mono ?_; rintro e w6 ⟨rfl, hbel⟩; have hbel := Aside0.mk hbel) | (go_at_call 18; refine (read_calls _ _).mono ?_; rintro e w7 ⟨rfl, rfl⟩))
        have HS0 : Aside0 (BQ W (w6.alloc (.cells #[.string (fin tx ops m), .int .i64 0, .int .i64 0] 75)) w6.heap.size (fin tx ops m) (fin tx ops m) 0 0 (tl (stAt tx ops 0))) := ⟨heap_alloc_new w6 _, hbel.out.size, hbel.out.trans (((Fr.refl (fun _ => False) w6).alloc _).to_below (fun _ _ _ e => e) hbel.out.size), Rel.start _⟩
        obtain ⟨G, hG⟩ : ∃ G, w6.heap.size = G := ⟨_, rfl⟩
        rw [hG] at HS0 ⊢
        clear hG hbel hct HS
        go_loopg [6] 300 (fun gh v6 wr => ∃ (y : Int) (d : ByteArray) (h n : Nat), v6 = .int .i64 y ∧ 0 ≤ y ∧ y ≤ (m : Int) ∧ 300 - y ≤ gh ∧ Aside0 (BQ W wr G (fin tx ops m) d h n (tl (stAt tx ops y.toNat))))
        case atStart => exact ⟨0, _, 0, 0, rfl, by omega, by omega, by omega, HS0⟩
        case round =>
          clear HS0
          obtain ⟨y, d, h, n, rfl, hy0, hy1, hgh2, HQ⟩ := hrel
          have hdb : d.size ≤ 100000 := by have := HQ.out.R.hd; omega
          by_cases hym : y < (m : Int)
          · have hyl : y < (ops.length : Int) := by omega
            have hcb : decide (y < (ops.length : Int)) = true := decide_eq_true hyl
            have hcb' : decide (y < 300) = true := decide_eq_true (by omega)
            obtain ⟨ad, eA, Y0, Y1, Y2⟩ := at_T32 hC.out y hy0 hyl
            cases eA
            have hy1' : (y + 1).toNat = y.toNat + 1 := by omega
            have hym' : y.toNat < m := by omega
            have hop : rd_T32 ops ((y.toNat : Nat) : Int) = rd_T32 ops y := by rw [Int.toNat_of_nonneg hy0]
            obtain ⟨o, ho⟩ : ∃ o, rd_T32 ops y = o := ⟨_, rfl⟩
            rw [ho] at hop Y0 Y1 Y2
            obtain ⟨wh, N, V⟩ := o
            have Y0 := Aside0.mk Y0
            have Y1 := Aside0.mk Y1
            have Y2 := Aside0.mk Y2
            clear ho
            have y0 := (HQ.out.bel.cell (World.block_lt_of_cell? W _ Y0.out)).trans Y0.out
            have y1 := (HQ.out.bel.cell (World.block_lt_of_cell? W _ Y1.out)).trans Y1.out
            have y2 := (HQ.out.bel.cell (World.block_lt_of_cell? W _ Y2.out)).trans Y2.out
            have p0 := eq_true hy0
            have q0 := eq_true hyl
            cases wh
            case true =>
              obtain ⟨b1, b2, b3⟩ := back_bytes tx ops y.toNat m hym' N V hop HQ.out.R
              obtain ⟨T, hT⟩ : ∃ T, tx true N V = T := ⟨_, rfl⟩
              have hTc := (htx.out true N V).2
              rw [hT] at b1 b2 b3 hTc
              have hcr : ∀ w d h n, IsR w G d h n → d.size ≤ 100000 → Calls Try.prog 19 #[.pointer (some ⟨G, 0, none⟩), .int .i64 (T.size : Int)] w fun e w' => e = .returned (.tuple #[.string (rbytesF d h n (T.size : Int)).1, .int .i64 (rbytesF d h n (T.size : Int)).2.1]) ∧ IsR w' G (rbytesF d h n (T.size : Int)).2.2.1 (rbytesF d h n (T.size : Int)).2.2.2.1 (rbytesF d h n (T.size : Int)).2.2.2.2 ∧ Fr (· = G) w w' := fun w d h n hI hd => rbytes_calls w G d h n _ hI (by omega)
              have hcr2 : ∀ w, IsR w G d h n → Calls Try.prog 19 #[.pointer (some ⟨G, 0, none⟩), .int .i64 (T.size : Int)] w fun e w' => e = .returned (.tuple #[.string T, .int .i64 0]) ∧ IsR w' G (rbytesF d h n (T.size : Int)).2.2.1 (rbytesF d h n (T.size : Int)).2.2.2.1 (rbytesF d h n (T.size : Int)).2.2.2.2 ∧ Fr (· = G) w w' := fun w hI => by
                have := hcr w d h n hI hdb
                rw [b1, b2] at this
                exact this
              have hTc := Aside0.mk hTc
              have hcr2 := Aside0.mk hcr2
              have b3 := Aside0.mk b3
              clear hcr b1 b2 hT
              go_wp2_with (first | (go_at_call 27; refine (hTc.out _).mono ?_; rintro e w2 ⟨rfl, hb⟩; replace HQ := Aside0.mk (HQ.out.byN (Fr.of_below hb)); clear hb; replace y0 := (HQ.out.bel.cell (World.block_lt_of_cell? W _ Y0.out)).trans Y0.out; replace y1 := (HQ.out.bel.cell (World.block_lt_of_cell? W _ Y1.out)).trans Y1.out; replace y2 := (HQ.out.bel.cell (World.block_lt_of_cell? W _ Y2.out)).trans Y2.out) | (go_at_call 19; refine (hcr2.out _ HQ.out.rd).mono ?_; rintro e w3 ⟨rfl, i3, f3⟩; replace HQ := Aside0.mk (HQ.out.byR i3 f3 b3.out); clear i3 f3 b3; replace y0 := (HQ.out.bel.cell (World.block_lt_of_cell? W _ Y0.out)).trans Y0.out; replace y1 := (HQ.out.bel.cell (World.block_lt_of_cell? W _ Y1.out)).trans Y1.out; replace y2 := (HQ.out.bel.cell (World.block_lt_of_cell? W _ Y2.out)).trans Y2.out))
              go_roundg (300 - (y + 1)).toNat
              case measure => omega
              case rel => exact ⟨y + 1, _, _, _, rfl, by omega, by omega, by omega, by rw [hy1']; exact HQ⟩
            case false =>
              by_cases hr : N < 0 ∨ 24 < N
              · have hst : stAt tx ops (y.toNat + 1) = stAt tx ops y.toNat := by
                  show stp tx (rd_T32 ops ((y.toNat : Nat) : Int)) _ = _
                  rw [hop]
                  show wbitsF _ _ _ V N = _
                  unfold wbitsF
                  rw [if_pos hr]
                have hrr : decide (N < 0) = true ∨ (decide (N < 0) = false ∧ decide (24 < N) = true) := by
                  by_cases h1 : N < 0
                  · exact .inl (decide_eq_true h1)
                  · exact .inr ⟨decide_eq_false h1, decide_eq_true (by omega)⟩
                have hst := Aside0.mk hst
                clear hr
                rcases hrr with hr1 | ⟨hr1, hr2⟩
                all_goals
                  go_wp2
                  go_roundg (300 - (y + 1)).toNat
                  case measure => omega
                  case rel => exact ⟨y + 1, _, _, _, rfl, by omega, by omega, by omega, by rw [hy1', hst.out]; exact HQ⟩
              · obtain ⟨q, rfl⟩ : ∃ q : Nat, N = q := ⟨N.toNat, by omega⟩
                have hq : q ≤ 24 := by omega
                have hr1 : decide ((q : Int) < 0) = false := decide_eq_false (by omega)
                have hr2 : decide ((24 : Int) < (q : Int)) = false := decide_eq_false (by omega)
                have hr3 : decide (24 < q) = false := decide_eq_false (by omega)
                obtain ⟨b1, b2, b3⟩ := back_bits tx ops y.toNat m hym' q hq V hop HQ.out.R
                have hcr2 : ∀ w, IsR w G d h n → Calls Try.prog 21 #[.pointer (some ⟨G, 0, none⟩), .int .i64 (q : Int)] w fun e w' => e = .returned (.tuple #[.int .i64 (V % 2 ^ q), .int .i64 0]) ∧ IsR w' G (rbitsF d h n (q : Int)).2.2.1 (rbitsF d h n (q : Int)).2.2.2.1 (rbitsF d h n (q : Int)).2.2.2.2 ∧ Fr (· = G) w w' := fun w hI => by
                  have := rbits_calls w G d h n (q : Int) hI HQ.out.R.hn HQ.out.R.hh (by omega)
                  rw [b1, b2] at this
                  exact this
                have hal := and_low V q hq
                have hcr2 := Aside0.mk hcr2
                have b3 := Aside0.mk b3
                clear b1 b2 hr
                go_wp2_with (go_at_call 21; refine (hcr2.out _ HQ.out.rd).mono ?_; rintro e w3 ⟨rfl, i3, f3⟩; replace HQ := Aside0.mk (HQ.out.byR i3 f3 b3.out); clear i3 f3 b3; replace y0 := (HQ.out.bel.cell (World.block_lt_of_cell? W _ Y0.out)).trans Y0.out; replace y1 := (HQ.out.bel.cell (World.block_lt_of_cell? W _ Y1.out)).trans Y1.out; replace y2 := (HQ.out.bel.cell (World.block_lt_of_cell? W _ Y2.out)).trans Y2.out)
                go_quiet (fail)
                have hal2 : Go.bits .and .i64 V (IntKind.i64.wrap (IntKind.i64.wrap (2 ^ q) - 1)) = V % 2 ^ q := by rw [i64_w, i64_w]; exact hal
                go_wp2
                go_roundg (300 - (y + 1)).toNat
                case measure => omega
                case rel => exact ⟨y + 1, _, _, _, rfl, by omega, by omega, by omega, ⟨by rw [hy1']; exact HQ.out.byN ((Fr.refl _ _).drewN _)⟩⟩
          · have hyl : ¬ (y < (ops.length : Int) ∧ y < 300) := fun h => hm3 (by omega)
            have hym2 : y.toNat = m := by omega
            rw [hym2] at HQ
            have hout2 : decide (y < (ops.length : Int)) = false ∨ (decide (y < (ops.length : Int)) = true ∧ decide (y < 300) = false) := by
              by_cases h1 : y < (ops.length : Int)
              · exact .inr ⟨decide_eq_true h1, decide_eq_false (fun h2 => hyl ⟨h1, h2⟩)⟩
              · exact .inl (decide_eq_false h1)
            obtain ⟨e1, e2, e3⟩ := back_end tx ops m HQ.out.R
            have hR := Aside0.mk HQ.out.R
            obtain ⟨L, hL⟩ : ∃ L, 8 * d.size + n = L := ⟨_, rfl⟩
            rw [hL] at e1 e2 e3
            have hcl : ∀ w, IsR w G d h n → Calls Try.prog 23 #[.pointer (some ⟨G, 0, none⟩)] w fun e w' => e = .returned (.int .i64 (L : Int)) ∧ Drawn0 w w' := fun w hI => by
              have := left_calls w G d h n hI (by have := hR.out.hn; omega) (by omega)
              rw [hL] at this
              exact this
            have hcb2 : ∀ w, IsR w G d h n → Calls Try.prog 21 #[.pointer (some ⟨G, 0, none⟩), .int .i64 (L : Int)] w fun e w' => e = .returned (.tuple #[.int .i64 0, .int .i64 0]) ∧ Fr (· = G) w w' := fun w hI => by
              have := rbits_calls w G d h n (L : Int) hI hR.out.hn hR.out.hh (by omega)
              rw [e2, e3] at this
              exact this.mono (fun e w' h => ⟨h.1, h.2.2⟩)
            have hcl := Aside0.mk hcl
            have hcb2 := Aside0.mk hcb2
            have L1 : decide ((L : Int) < 0) = false := decide_eq_false (by omega)
            have L2 : decide ((7 : Int) < (L : Int)) = false := decide_eq_false (by omega)
            have L3 : decide (7 < L) = false := decide_eq_false (by omega)
            clear hyl hym2 e2 e3 hL hym hy0 hy1 hgh2
            rcases hout2 with hq | ⟨hq, hq'⟩
            all_goals
              go_wp2_with (first | (go_at_call 23; refine (hcl.out _ HQ.out.rd).mono ?_; rintro e w8 ⟨rfl, hd8⟩; replace HQ := Aside0.mk (HQ.out.byN (Fr.of_drawn hd8)); clear hd8) | (go_at_call 21; refine (hcb2.out _ HQ.out.rd).mono ?_; rintro e w9 ⟨rfl, f9⟩; have hB9 := Aside0.mk (HQ.out.bel.trans (f9.to_below (fun k hk _ e => by subst e; exact Nat.not_lt.2 HQ.out.G0 hk) HQ.out.bel.size)); clear f9) | (go_at_call 17; refine (hAw _).mono ?_; rintro e w10 ⟨rfl, hbel⟩))
              go_ret
              exact ⟨rfl, hB9.out.trans (hbel.mono hB9.out.size)⟩
end Go.Proofs.Ytpldapjcojjicaa.B
