/- Layer 1 (bits): whole bytes off a reader; a new reader, a new writer: their contracts. Joined of texts: Layer 1 (bits): the reader's methods: their contracts. -/
import Derived.Test.YtpldapjcojjicaaFr
import Derived.Deep.LoopGhost
import Derived.Deep.QuietTactic
import Derived.BigQuiet
import Derived.Deep.DeepCutAuto
import Derived.Deep.CutBlock
import Derived.WalkKit
import Derived.KernelRfl
namespace Go.Proofs.Ytpldapjcojjicaa.B
open Go.RowKit Go.Proofs.YtpldapjcojjicaaW.PrintWords Go.Proofs.YtpldapjcojjicaaW.PrintLast
set_option linter.unusedVariables false
set_option linter.unusedSimpArgs false

/-- A reader at block g: what was not looked at, what is held, how many bits. -/
def IsR (W : World) (g : Nat) (d : ByteArray) (h n : Nat) : Prop := W.heap[g]? = some (.cells #[.string d, .int .i64 (h : Int), .int .i64 (n : Int)] 75 (0, 0))

set_option maxHeartbeats 400000 in
theorem left_calls (W : World) (g : Nat) (d : ByteArray) (h n : Nat) (hI : IsR W g d h n) (hn : n ≤ 100) (hd : d.size ≤ 140737488355328) :
    Calls Try.prog 23 #[.pointer (some ⟨g, 0, none⟩)] W fun e W' => e = .returned (.int .i64 ((8 * d.size + n : Nat) : Int)) ∧ Drawn0 W W' := by
  have h0 : W.cell? ⟨g, 0, none⟩ = some (.string d) := (blk_cell hI 0).trans rfl
  have h2 : W.cell? ⟨g, 2, none⟩ = some (.int .i64 (n : Int)) := (blk_cell hI 2).trans rfl
  have hI := Aside0.mk hI
  go_enter Try.func23, Try.ntmps23
  go_wp2
  repeat (go_quiet (fail); try go_wp2)
  go_ret
  exact ⟨by rw [Int.natCast_add]; rfl, by repeat (first | exact Drawn0.refl _ | apply Drawn0.step)⟩

/-- The first byte. -/
def b0 (d : ByteArray) : Nat := (bt d 0).toNat
theorem b0_lt (d : ByteArray) : b0 d < 256 := by have := bt_range d 0; unfold b0; omega
theorem b0_at (d : ByteArray) : ∀ h : 0 < d.size, (((d[0]'h).toNat : Nat) : Int) = ((b0 d : Nat) : Int) := fun h => by
  have h1 := bt_at d 0 (by simpa using h)
  have := bt_range d 0
  unfold b0
  rw [Int.toNat_of_nonneg this.1, ← h1]
  rfl

/-- Bytes are looked at till so many bits are held. -/
def rfill (d : ByteArray) (h n k : Nat) : ByteArray × Nat × Nat := if n < k then rfill (d.extract 1 d.size) (h + b0 d * 2 ^ n) (n + 8) k else (d, h, n)
termination_by k - n

theorem rfill_go {d : ByteArray} {h n k : Nat} (c : n < k) : rfill (d.extract 1 d.size) (h + b0 d * 2 ^ n) (n + 8) k = rfill d h n k := by
  conv => rhs; unfold rfill
  rw [if_pos c]
theorem rfill_end {d : ByteArray} {h n k : Nat} (c : ¬ n < k) : rfill d h n k = (d, h, n) := by
  unfold rfill
  rw [if_neg c]

set_option maxHeartbeats 1000000 in
set_option maxRecDepth 100000 in
/-- The way that takes bits off. -/
theorem rbits_yes (W : World) (g : Nat) (d : ByteArray) (h n k : Nat) (hI : IsR W g d h n) (hn : n ≤ 7) (hh : h < 2 ^ n) (hd : d.size ≤ 140737488355328) (hk : k ≤ 24) (hkn : k ≤ 8 * d.size + n) :
    Calls Try.prog 21 #[.pointer (some ⟨g, 0, none⟩), .int .i64 (k : Int)] W fun e W' => e = .returned (.tuple #[.int .i64 (((rfill d h n k).2.1 % 2 ^ k : Nat) : Int), .int .i64 0]) ∧ IsR W' g (rfill d h n k).1 ((rfill d h n k).2.1 / 2 ^ k) ((rfill d h n k).2.2 - k) ∧ Fr (· = g) W W' := by
  have hI := Aside0.mk hI
  have k0 : decide ((k : Int) < 0) = false := decide_eq_false (by omega)
  have k24 : decide ((24 : Int) < (k : Int)) = false := decide_eq_false (by omega)
  have k24' : decide (24 < k) = false := decide_eq_false (by omega)
  have kn : decide (((8 * d.size + n : Nat) : Int) < (k : Int)) = false := decide_eq_false (by omega)
  have kn' : decide (8 * d.size + n < k) = false := decide_eq_false (by omega)
  go_enter Try.func21, Try.ntmps21
  go_wp2_with (go_at_call 23; refine (left_calls _ g d h n hI.out (by omega) hd).mono ?_; rintro e w' ⟨rfl, hdr⟩)
  have hF0 := Aside0.mk (Fr.of_drawn hdr)
  clear hdr
  go_loopg [] k (fun gh wr => ∃ (d1 : ByteArray) (h1 n1 : Nat), Aside0 (IsR wr g d1 h1 n1) ∧ Aside0 (rfill d1 h1 n1 k = rfill d h n k) ∧ Aside0 (h1 < 2 ^ n1) ∧ n1 ≤ 31 ∧ k ≤ 8 * d1.size + n1 ∧ d1.size ≤ 140737488355328 ∧ k - n1 ≤ gh ∧ Aside0 (Fr (· = g) W wr))
  case atStart => exact ⟨d, h, n, ⟨(hF0.out.blk hI.out (fun e => e))⟩, ⟨rfl⟩, ⟨hh⟩, by omega, hkn, hd, by omega, ⟨hF0.out.mono (fun _ _ e => e.elim)⟩⟩
  case round =>
    obtain ⟨d1, h1, n1, HI, HF, HH, hn1, hkn1, hd1, hg, HR⟩ := hrel
    have c0 : wr.cell? ⟨g, 0, none⟩ = some (.string d1) := (blk_cell HI.out 0).trans rfl
    have c1 : wr.cell? ⟨g, 1, none⟩ = some (.int .i64 (h1 : Int)) := (blk_cell HI.out 1).trans rfl
    have c2 : wr.cell? ⟨g, 2, none⟩ = some (.int .i64 (n1 : Int)) := (blk_cell HI.out 2).trans rfl
    have f0 := blk_frozen HI.out 0
    have f1 := blk_frozen HI.out 1
    have f2 := blk_frozen HI.out 2
    by_cases hc : n1 < k
    · have hcb : decide (n1 < k) = true := decide_eq_true hc
      have hb := b0_at d1
      have hbl := b0_lt d1
      have hds : 0 < d1.size := by omega
      go_wp2
      refine start_ (n := 19) (S := fun w' => w'.cell? ⟨g, 0, none⟩ = some (.string d1) ∧ w'.cell? ⟨g, 1, none⟩ = some (.int .i64 (h1 : Int)) ∧ w'.cell? ⟨g, 2, none⟩ = some (.int .i64 (n1 : Int))) (ds := [18]) #[false, false, false, false, false, false, false, false, false, false, false, false, false, false, false, false, false, false, false] (by kernel_rfl) rfl rfl ⟨c0, c1, c2⟩ (fun hHeld => ?_)
      refine pure_ (i := 0) (N := some 28) (v := ?_) (a' := ?_) #[true, false, false, false, false, false, false, false, false, false, false, false, false, false, false, false, false, false, false] rfl rfl (by kernel_rfl) (fun _ _ _ h => h) (Or.inl ⟨by rfl, ?_⟩) ?_ ?_
      rotate_left
      · intro w'
        go_simp
        with_reducible rfl
      rotate_left
      · simp only [Act.put, List.setIfInBounds_toArray, List.set_cons_zero, List.set_cons_succ, i64_w, i32_w]
        rfl
      refine pure_ (i := 1) (N := some 29) (v := ?_) (a' := ?_) #[true, true, false, false, false, false, false, false, false, false, false, false, false, false, false, false, false, false, false] rfl rfl (by kernel_rfl) (fun _ _ _ h => h) (Or.inl ⟨by rfl, ?_⟩) ?_ ?_
      rotate_left
      · intro w'
        go_simp
        with_reducible rfl
      rotate_left
      · simp only [Act.put, List.setIfInBounds_toArray, List.set_cons_zero, List.set_cons_succ, i64_w, i32_w]
        rfl
      refine pure_ (i := 2) (N := some 30) (v := ?_) (a' := ?_) #[true, true, true, false, false, false, false, false, false, false, false, false, false, false, false, false, false, false, false] rfl rfl (by kernel_rfl) (fun _ _ _ h => h) (Or.inl ⟨by rfl, ?_⟩) ?_ ?_
      rotate_left
      · intro w'
        go_simp
        with_reducible rfl
      rotate_left
      · simp only [Act.put, List.setIfInBounds_toArray, List.set_cons_zero, List.set_cons_succ, i64_w, i32_w]
        rfl
      refine pure_ (i := 4) (N := some 32) (v := ?_) (a' := ?_) #[true, true, true, false, true, false, false, false, false, false, false, false, false, false, false, false, false, false, false] rfl rfl (by kernel_rfl) (fun _ _ _ h => h) (Or.inl ⟨by rfl, ?_⟩) ?_ ?_
      rotate_left
      · intro w'
        go_simp
        with_reducible rfl
      rotate_left
      · simp only [Act.put, List.setIfInBounds_toArray, List.set_cons_zero, List.set_cons_succ, i64_w, i32_w]
        rfl
      refine pure_ (i := 5) (N := some 33) (v := ?_) (a' := ?_) #[true, true, true, false, true, true, false, false, false, false, false, false, false, false, false, false, false, false, false] rfl rfl (by kernel_rfl) (fun _ _ _ h => h) (Or.inl ⟨by rfl, ?_⟩) ?_ ?_
      rotate_left
      · intro w'
        go_simp
        with_reducible rfl
      rotate_left
      · simp only [Act.put, List.setIfInBounds_toArray, List.set_cons_zero, List.set_cons_succ, i64_w, i32_w]
        rfl
      refine pure_ (i := 6) (N := some 34) (v := ?_) (a' := ?_) #[true, true, true, false, true, true, true, false, false, false, false, false, false, false, false, false, false, false, false] rfl rfl (by kernel_rfl) (fun _ _ _ h => h) (Or.inl ⟨by rfl, ?_⟩) ?_ ?_
      rotate_left
      · intro w'
        go_simp
        with_reducible rfl
      rotate_left
      · simp only [Act.put, List.setIfInBounds_toArray, List.set_cons_zero, List.set_cons_succ, i64_w, i32_w]
        rfl
      refine pure_ (i := 10) (N := some 38) (v := ?_) (a' := ?_) #[true, true, true, false, true, true, true, false, false, false, true, false, false, false, false, false, false, false, false] rfl rfl (by kernel_rfl) (fun _ _ _ h => h) (Or.inl ⟨by rfl, ?_⟩) ?_ ?_
      rotate_left
      · intro w'
        go_simp
        with_reducible rfl
      rotate_left
      · simp only [Act.put, List.setIfInBounds_toArray, List.set_cons_zero, List.set_cons_succ, i64_w, i32_w]
        rfl
      refine pure_ (i := 11) (N := some 39) (v := ?_) (a' := ?_) #[true, true, true, false, true, true, true, false, false, false, true, true, false, false, false, false, false, false, false] rfl rfl (by kernel_rfl) (fun _ _ _ h => h) (Or.inl ⟨by rfl, ?_⟩) ?_ ?_
      rotate_left
      · intro w'
        go_simp
        with_reducible rfl
      rotate_left
      · simp only [Act.put, List.setIfInBounds_toArray, List.set_cons_zero, List.set_cons_succ, i64_w, i32_w]
        rfl
      refine pure_ (i := 12) (N := some 40) (v := ?_) (a' := ?_) #[true, true, true, false, true, true, true, false, false, false, true, true, true, false, false, false, false, false, false] rfl rfl (by kernel_rfl) (fun _ _ _ h => h) (Or.inl ⟨by rfl, ?_⟩) ?_ ?_
      rotate_left
      · intro w'
        go_simp
        with_reducible rfl
      rotate_left
      · simp only [Act.put, List.setIfInBounds_toArray, List.set_cons_zero, List.set_cons_succ, i64_w, i32_w]
        rfl
      refine take_ (i := 3) (N := some 31) (v := ?_) (a' := ?_) #[true, true, true, true, true, true, true, false, false, false, true, true, true, false, false, false, false, false, false] rfl rfl (by kernel_rfl) (fun _ _ _ h => h) (Or.inl ⟨by rfl, ?_⟩) hHeld ?_ ?_
      rotate_left
      · rintro w' ⟨s0, s1, s2⟩
        go_simp
        with_reducible rfl
      rotate_left
      · simp only [Act.put, List.setIfInBounds_toArray, List.set_cons_zero, List.set_cons_succ, i64_w, i32_w]
        rfl
      refine take_ (i := 7) (N := some 35) (v := ?_) (a' := ?_) #[true, true, true, true, true, true, true, true, false, false, true, true, true, false, false, false, false, false, false] rfl rfl (by kernel_rfl) (fun _ _ _ h => h) (Or.inl ⟨by rfl, ?_⟩) hHeld ?_ ?_
      rotate_left
      · rintro w' ⟨s0, s1, s2⟩
        go_simp
        with_reducible rfl
      rotate_left
      · simp only [Act.put, List.setIfInBounds_toArray, List.set_cons_zero, List.set_cons_succ, i64_w, i32_w]
        rfl
      refine take_ (i := 8) (N := some 36) (v := ?_) (a' := ?_) #[true, true, true, true, true, true, true, true, true, false, true, true, true, false, false, false, false, false, false] rfl rfl (by kernel_rfl) (fun _ _ _ h => h) (Or.inl ⟨by rfl, ?_⟩) hHeld ?_ ?_
      rotate_left
      · rintro w' ⟨s0, s1, s2⟩
        go_simp
        with_reducible rfl
      rotate_left
      · simp only [Act.put, List.setIfInBounds_toArray, List.set_cons_zero, List.set_cons_succ, i64_w, i32_w]
        rfl
      refine pure_ (i := 9) (N := some 37) (v := ?_) (a' := ?_) #[true, true, true, true, true, true, true, true, true, true, true, true, true, false, false, false, false, false, false] rfl rfl (by kernel_rfl) (fun _ _ _ h => h) (Or.inl ⟨by rfl, ?_⟩) ?_ ?_
      rotate_left
      · intro w'
        go_simp
        with_reducible rfl
      rotate_left
      · simp only [Act.put, List.setIfInBounds_toArray, List.set_cons_zero, List.set_cons_succ, i64_w, i32_w]
        rfl
      refine take_ (i := 13) (N := some 41) (v := ?_) (a' := ?_) #[true, true, true, true, true, true, true, true, true, true, true, true, true, true, false, false, false, false, false] rfl rfl (by kernel_rfl) (fun _ _ _ h => h) (Or.inl ⟨by rfl, ?_⟩) hHeld ?_ ?_
      rotate_left
      · rintro w' ⟨s0, s1, s2⟩
        go_simp
        with_reducible rfl
      rotate_left
      · simp only [Act.put, List.setIfInBounds_toArray, List.set_cons_zero, List.set_cons_succ, i64_w, i32_w]
        rfl
      refine pure_ (i := 14) (N := some 42) (v := ?_) (a' := ?_) #[true, true, true, true, true, true, true, true, true, true, true, true, true, true, true, false, false, false, false] rfl rfl (by kernel_rfl) (fun _ _ _ h => h) (Or.inl ⟨by rfl, ?_⟩) ?_ ?_
      rotate_left
      · intro w'
        go_simp
        with_reducible rfl
      rotate_left
      · simp only [Act.put, List.setIfInBounds_toArray, List.set_cons_zero, List.set_cons_succ, i64_w, i32_w]
        rfl
      refine pure_ (i := 15) (N := some 43) (v := ?_) (a' := ?_) #[true, true, true, true, true, true, true, true, true, true, true, true, true, true, true, true, false, false, false] rfl rfl (by kernel_rfl) (fun _ _ _ h => h) (Or.inl ⟨by rfl, ?_⟩) ?_ ?_
      rotate_left
      · intro w'
        go_simp
        with_reducible rfl
      rotate_left
      · simp only [Act.put, List.setIfInBounds_toArray, List.set_cons_zero, List.set_cons_succ, i64_w, i32_w]
        rfl
      refine pure_ (i := 16) (N := some 44) (v := ?_) (a' := ?_) #[true, true, true, true, true, true, true, true, true, true, true, true, true, true, true, true, true, false, false] rfl rfl (by kernel_rfl) (fun _ _ _ h => h) (Or.inl ⟨by rfl, ?_⟩) ?_ ?_
      rotate_left
      · intro w'
        go_simp
        with_reducible rfl
      rotate_left
      · simp only [Act.put, List.setIfInBounds_toArray, List.set_cons_zero, List.set_cons_succ, i64_w, i32_w]
        rfl
      refine pure_ (i := 17) (N := some 45) (v := ?_) (a' := ?_) #[true, true, true, true, true, true, true, true, true, true, true, true, true, true, true, true, true, true, false] rfl rfl (by kernel_rfl) (fun _ _ _ h => h) (Or.inl ⟨by rfl, ?_⟩) ?_ ?_
      rotate_left
      · intro w'
        go_simp
        with_reducible rfl
      rotate_left
      · simp only [Act.put, List.setIfInBounds_toArray, List.set_cons_zero, List.set_cons_succ, i64_w, i32_w]
        rfl
      refine last_ (i := 18) (N := none) #[true, true, true, true, true, true, true, true, true, true, true, true, true, true, true, true, true, true, true] rfl rfl (by kernel_rfl) (by decide) (fun K hK => ?_)
      refine skip_ (w1 := ?_) (by rfl) rfl ?_ ?_
      rotate_left
      · go_simp
        rfl
      refine hK.out _ _ ?_
      clear hK K
      refine done_ (by kernel_rfl) ?_

      obtain ⟨H2, hH2⟩ : ∃ H2 : Nat, H2 = h1 + b0 d1 * 2 ^ n1 := ⟨_, rfl⟩
      have hlt2 : H2 < 2 ^ (n1 + 8) := by rw [hH2]; exact rd_lt h1 (b0 d1) n1 hbl HH.out
      rw [rd_or h1 (b0 d1) n1 hbl hn1 HH.out, ← hH2]
      have HI2 : Aside0 (IsR (wr.setCell ⟨g, 1, none⟩ (.int .i64 (H2 : Int))).drew g d1 H2 n1) := ⟨blk_set HI.out 1 (.int .i64 (H2 : Int))⟩
      have HR2 : Aside0 (Fr (· = g) W (wr.setCell ⟨g, 1, none⟩ (.int .i64 (H2 : Int))).drew) := ⟨(HR.out.set_ _ _ (fun _ => rfl)).drew⟩
      have HF2 : Aside0 (rfill (d1.extract 1 d1.size) H2 (n1 + 8) k = rfill d h n k) := ⟨by rw [hH2, rfill_go hc]; exact HF.out⟩
      have HH2 := Aside0.mk hlt2
      obtain ⟨W2, hW2⟩ : ∃ W2, (wr.setCell ⟨g, 1, none⟩ (.int .i64 (H2 : Int))).drew = W2 := ⟨_, rfl⟩
      rw [hW2] at HI2 HR2 ⊢
      clear hW2 hHeld c0 c1 c2 f0 f1 f2 hH2 hlt2 HI HR hb
      have c0 : W2.cell? ⟨g, 0, none⟩ = some (.string d1) := (blk_cell HI2.out 0).trans rfl
      have c2 : W2.cell? ⟨g, 2, none⟩ = some (.int .i64 (n1 : Int)) := (blk_cell HI2.out 2).trans rfl
      have f0 := blk_frozen HI2.out 0
      have f2 := blk_frozen HI2.out 2
      go_wp2
      go_roundg (k - (n1 + 8))
      case measure => omega
      case rel => exact ⟨d1.extract 1 d1.size, H2, n1 + 8, ⟨by have hz := blk_set (blk_set HI2.out 2 (.int .i64 ((n1 + 8 : Nat) : Int))) 0 (.string (d1.extract 1 d1.size)); rw [Int.natCast_add] at hz; exact hz⟩, HF2, HH2, by omega, by simp; omega, by simp; omega, Nat.le_refl _, ⟨by simpa using (HR2.out.set_ ⟨g, 2, none⟩ _ (fun _ => rfl)).set_ ⟨g, 0, none⟩ _ (fun _ => rfl)⟩⟩
    · have hcb : decide (n1 < k) = false := decide_eq_false hc
      have hr : Aside0 (rfill d h n k = (d1, h1, n1)) := ⟨HF.out.symm.trans (rfill_end hc)⟩
      go_wp2
      repeat (go_quiet (fail); try go_wp2)
      rw [rd_and h1 k (by omega)]
      go_ret2
      rw [hr.out]
      refine ⟨rfl, ?_, ?_⟩
      · have hz := blk_set (blk_set (show (wr.drewN nq).heap[g]? = _ from HI.out) 1 (.int .i64 ((h1 / 2 ^ k : Nat) : Int))) 2 (.int .i64 ((n1 - k : Nat) : Int))
        have e1 : ((h1 / 2 ^ k : Nat) : Int) = (h1 : Int) / 2 ^ k := by rw [Int.natCast_ediv, ← pow_cast]
        have e2 : ((n1 - k : Nat) : Int) = (n1 : Int) - (k : Int) := by omega
        rw [e1, e2] at hz
        show _ = some (Obj.cells #[.string d1, .int .i64 ((h1 / 2 ^ k : Nat) : Int), .int .i64 ((n1 - k : Nat) : Int)] 75 (0, 0))
        rw [e1, e2]
        exact hz
      · exact ((HR.out.drewN nq).set_ ⟨g, 1, none⟩ _ (fun _ => rfl)).set_ ⟨g, 2, none⟩ _ (fun _ => rfl)

set_option maxHeartbeats 1000000 in
set_option maxRecDepth 100000 in
theorem rbits_arg (W : World) (g : Nat) (d : ByteArray) (h n : Nat) (k : Int) (hI : IsR W g d h n) (hk : k < 0 ∨ 24 < k) :
    Calls Try.prog 21 #[.pointer (some ⟨g, 0, none⟩), .int .i64 k] W fun e W' => e = .returned (.tuple #[.int .i64 0, .int .i64 1]) ∧ Drawn0 W W' := by
  have hI := Aside0.mk hI
  by_cases h0 : k < 0
  · have k0 : decide (k < 0) = true := decide_eq_true h0
    clear hk
    go_enter Try.func21, Try.ntmps21
    go_wp2
    repeat (go_quiet (fail); try go_wp2)
    go_ret2
    exact ⟨rfl, by repeat (first | exact Drawn0.refl _ | apply Drawn0.step)⟩
  · have k0 : decide (k < 0) = false := decide_eq_false h0
    have k1 : decide (24 < k) = true := decide_eq_true (by omega)
    clear hk
    go_enter Try.func21, Try.ntmps21
    go_wp2
    repeat (go_quiet (fail); try go_wp2)
    go_ret2
    exact ⟨rfl, by repeat (first | exact Drawn0.refl _ | apply Drawn0.step)⟩

set_option maxHeartbeats 1000000 in
set_option maxRecDepth 100000 in
theorem rbits_end (W : World) (g : Nat) (d : ByteArray) (h n k : Nat) (hI : IsR W g d h n) (hn : n ≤ 7) (hd : d.size ≤ 140737488355328) (hk : k ≤ 24) (hkn : 8 * d.size + n < k) :
    Calls Try.prog 21 #[.pointer (some ⟨g, 0, none⟩), .int .i64 (k : Int)] W fun e W' => e = .returned (.tuple #[.int .i64 0, .int .i64 3]) ∧ Drawn0 W W' := by
  have hI := Aside0.mk hI
  have k0 : decide ((k : Int) < 0) = false := decide_eq_false (by omega)
  have k24 : decide ((24 : Int) < (k : Int)) = false := decide_eq_false (by omega)
  have k24' : decide (24 < k) = false := decide_eq_false (by omega)
  have kn : decide (((8 * d.size + n : Nat) : Int) < (k : Int)) = true := decide_eq_true (by omega)
  have kn' : decide (8 * d.size + n < k) = true := decide_eq_true (by omega)
  go_enter Try.func21, Try.ntmps21
  go_wp2_with (go_at_call 23; refine (left_calls _ g d h n hI.out (by omega) hd).mono ?_; rintro e w' ⟨rfl, hdr⟩)
  repeat (go_quiet (fail); try go_wp2)
  go_ret2
  obtain ⟨m, rfl⟩ := hdr
  exact ⟨rfl, by repeat (first | exact Drawn0.refl _ | apply Drawn0.step)⟩

/-- What Bits tells: the value, the error, what is left. -/
def rbitsF (d : ByteArray) (h n : Nat) (k : Int) : Int × Int × ByteArray × Nat × Nat :=
  if k < 0 ∨ 24 < k then (0, 1, d, h, n) else if ((8 * d.size + n : Nat) : Int) < k then (0, 3, d, h, n)
  else ((((rfill d h n k.toNat).2.1 % 2 ^ k.toNat : Nat) : Int), 0, (rfill d h n k.toNat).1, (rfill d h n k.toNat).2.1 / 2 ^ k.toNat, (rfill d h n k.toNat).2.2 - k.toNat)
theorem rbits_calls (W : World) (g : Nat) (d : ByteArray) (h n : Nat) (k : Int) (hI : IsR W g d h n) (hn : n ≤ 7) (hh : h < 2 ^ n) (hd : d.size ≤ 140737488355328) :
    Calls Try.prog 21 #[.pointer (some ⟨g, 0, none⟩), .int .i64 k] W fun e W' => e = .returned (.tuple #[.int .i64 (rbitsF d h n k).1, .int .i64 (rbitsF d h n k).2.1]) ∧ IsR W' g (rbitsF d h n k).2.2.1 (rbitsF d h n k).2.2.2.1 (rbitsF d h n k).2.2.2.2 ∧ Fr (· = g) W W' := by
  unfold rbitsF
  by_cases hk : k < 0 ∨ 24 < k
  · rw [if_pos hk]
    refine (rbits_arg W g d h n k hI hk).mono ?_
    rintro e w' ⟨rfl, hdr⟩
    exact ⟨rfl, (Fr.of_drawn hdr).blk hI (fun e => e), (Fr.of_drawn hdr).mono (fun _ _ e => e.elim)⟩
  · rw [if_neg hk]
    obtain ⟨q, rfl⟩ : ∃ q : Nat, k = q := ⟨k.toNat, by omega⟩
    by_cases hkn : ((8 * d.size + n : Nat) : Int) < (q : Int)
    · rw [if_pos hkn]
      refine (rbits_end W g d h n q hI hn hd (by omega) (by omega)).mono ?_
      rintro e w' ⟨rfl, hdr⟩
      exact ⟨rfl, (Fr.of_drawn hdr).blk hI (fun e => e), (Fr.of_drawn hdr).mono (fun _ _ e => e.elim)⟩
    · rw [if_neg hkn]
      exact rbits_yes W g d h n q hI hn hh hd (by omega) (by omega)

/-- A reader stays one whose bits are fewer than a byte. -/
theorem rfill_ok (k : Nat) (hk : k ≤ 24) : ∀ (d : ByteArray) (h n : Nat), h < 2 ^ n → n ≤ 31 → n < k + 8 → k ≤ 8 * d.size + n → (rfill d h n k).2.1 < 2 ^ (rfill d h n k).2.2 ∧ k ≤ (rfill d h n k).2.2 ∧ (rfill d h n k).2.2 < k + 8 ∧ (rfill d h n k).1.size ≤ d.size := by
  intro d h n hh hn hnk hkd
  by_cases c : n < k
  · rw [← rfill_go c]
    have h1 := rfill_ok k hk (d.extract 1 d.size) (h + b0 d * 2 ^ n) (n + 8) (rd_lt h (b0 d) n (b0_lt d) hh) (by omega) (by omega) (by simp; omega)
    simp at h1
    omega
  · rw [rfill_end c]
    exact ⟨hh, by show k ≤ n; omega, hnk, Nat.le_refl _⟩
termination_by _ _ n => k - n
theorem rbitsF_ok (d : ByteArray) (h n : Nat) (k : Int) (hn : n ≤ 7) (hh : h < 2 ^ n) : (rbitsF d h n k).2.2.2.1 < 2 ^ (rbitsF d h n k).2.2.2.2 ∧ (rbitsF d h n k).2.2.2.2 ≤ 7 ∧ (rbitsF d h n k).2.2.1.size ≤ d.size := by
  unfold rbitsF
  by_cases hk : k < 0 ∨ 24 < k
  · rw [if_pos hk]; exact ⟨hh, hn, Nat.le_refl _⟩
  · rw [if_neg hk]
    obtain ⟨q, rfl⟩ : ∃ q : Nat, k = q := ⟨k.toNat, by omega⟩
    by_cases hkn : ((8 * d.size + n : Nat) : Int) < (q : Int)
    · rw [if_pos hkn]; exact ⟨hh, hn, Nat.le_refl _⟩
    · rw [if_neg hkn, Int.toNat_natCast]
      have h1 := rfill_ok q (by omega) d h n hh (by omega) (by omega) (by omega)
      refine ⟨?_, by show _ - q ≤ 7; omega, h1.2.2.2⟩
      show (rfill d h n q).2.1 / 2 ^ q < 2 ^ ((rfill d h n q).2.2 - q)
      rw [Nat.div_lt_iff_lt_mul (pow_pos' q), ← Nat.pow_add, show (rfill d h n q).2.2 - q + q = (rfill d h n q).2.2 by omega]
      exact h1.1

end Go.Proofs.Ytpldapjcojjicaa.B

namespace Go.Proofs.Ytpldapjcojjicaa.B
open Go.RowKit Go.Proofs.YtpldapjcojjicaaW.PrintWords Go.Proofs.YtpldapjcojjicaaW.PrintLast
set_option linter.unusedVariables false
set_option linter.unusedSimpArgs false

/-- What Bytes tells. -/
def rbytesF (d : ByteArray) (h n : Nat) (k : Int) : ByteArray × Int × ByteArray × Nat × Nat :=
  if k < 0 then (⟨#[]⟩, 1, d, h, n) else if (d.size : Int) < k then (⟨#[]⟩, 3, d, 0, 0) else (d.extract 0 k.toNat, 0, d.extract k.toNat d.size, 0, 0)

set_option maxHeartbeats 400000 in
set_option maxRecDepth 100000 in
theorem rbytes_calls (W : World) (g : Nat) (d : ByteArray) (h n : Nat) (k : Int) (hI : IsR W g d h n) (hd : d.size ≤ 140737488355328) :
    Calls Try.prog 19 #[.pointer (some ⟨g, 0, none⟩), .int .i64 k] W fun e W' => e = .returned (.tuple #[.string (rbytesF d h n k).1, .int .i64 (rbytesF d h n k).2.1]) ∧ IsR W' g (rbytesF d h n k).2.2.1 (rbytesF d h n k).2.2.2.1 (rbytesF d h n k).2.2.2.2 ∧ Fr (· = g) W W' := by
  have c0 : W.cell? ⟨g, 0, none⟩ = some (.string d) := (blk_cell hI 0).trans rfl
  have c1 : W.cell? ⟨g, 1, none⟩ = some (.int .i64 (h : Int)) := (blk_cell hI 1).trans rfl
  have c2 : W.cell? ⟨g, 2, none⟩ = some (.int .i64 (n : Int)) := (blk_cell hI 2).trans rfl
  have f0 := blk_frozen hI 0
  have f1 := blk_frozen hI 1
  have f2 := blk_frozen hI 2
  have hI := Aside0.mk hI
  unfold rbytesF
  by_cases h0 : k < 0
  · rw [if_pos h0]
    have k0 : decide (k < 0) = true := decide_eq_true h0
    go_enter Try.func19, Try.ntmps19
    go_wp2
    go_ret2
    exact ⟨rfl, hI.out, Fr.refl _ _⟩
  · rw [if_neg h0]
    have k0 : decide (k < 0) = false := decide_eq_false h0
    have z1 := blk_set (blk_set hI.out 1 (.int .i64 0)) 2 (.int .i64 0)
    have z2 := ((Fr.refl (· = g) W).set_ ⟨g, 1, none⟩ (.int .i64 0) (fun _ => rfl)).set_ ⟨g, 2, none⟩ (.int .i64 0) (fun _ => rfl)
    have z1 := Aside0.mk z1
    have z2 := Aside0.mk z2
    by_cases h1 : (d.size : Int) < k
    · rw [if_pos h1]
      have k1 : decide ((d.size : Int) < k) = true := decide_eq_true h1
      go_enter Try.func19, Try.ntmps19
      go_wp2
      go_ret2
      exact ⟨rfl, z1.out, z2.out⟩
    · rw [if_neg h1]
      obtain ⟨q, rfl⟩ : ∃ q : Nat, k = q := ⟨k.toNat, by omega⟩
      have k1 : decide ((d.size : Int) < (q : Int)) = false := decide_eq_false h1
      have k1' : decide (d.size < q) = false := decide_eq_false (by omega)
      go_enter Try.func19, Try.ntmps19
      go_wp2
      go_ret2
      exact ⟨rfl, blk_set z1.out 0 (.string (d.extract q d.size)), z2.out.set_ ⟨g, 0, none⟩ _ (fun _ => rfl)⟩

theorem read_calls (W : World) (d : ByteArray) :
    Calls Try.prog 18 #[.string d] W fun e W' => e = .returned (.pointer (some ⟨W.heap.size, 0, none⟩)) ∧ W' = W.alloc (.cells #[.string d, .int .i64 0, .int .i64 0] 75) := by
  go_enter Try.func18, Try.ntmps18
  go_wp2
  go_ret
  exact ⟨rfl, rfl⟩
theorem new_calls (W : World) :
    Calls Try.prog 25 #[] W fun e W' => e = .returned (.pointer (some ⟨W.heap.size, 0, none⟩)) ∧ W' = W.alloc (.cells #[.slice none 0 0, .int .i64 0, .int .i64 0] 77) := by
  go_enter Try.func25, Try.ntmps25
  go_wp2
  go_ret
  exact ⟨rfl, rfl⟩
end Go.Proofs.Ytpldapjcojjicaa.B
