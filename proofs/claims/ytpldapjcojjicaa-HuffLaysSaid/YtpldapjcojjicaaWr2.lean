/- Layer 1 (bits): the writer's Bytes and Text: their contracts. Joined of texts: Layer 1 (bits): the writer's methods: their contracts. append(row, s...) of bytes: the row is as before or lies in a new block; as one step of a region that draws. -/
import Derived.Test.YtpldapjcojjicaaRd2
import Derived.Test.YtpldapjcojjicaaFr
namespace Go.Proofs.Ytpldapjcojjicaa.B
open Go.RowKit Go.Proofs.YtpldapjcojjicaaW.PrintWords Go.Proofs.YtpldapjcojjicaaW.PrintLast
set_option linter.unusedVariables false
set_option linter.unusedSimpArgs false

theorem info5 : (Try.prog.info? 5).map (fun i => (i.zero, i.size, i.bytes)) = some (some (.int .u8 0), 1, 1) := by kernel_rfl

/-- A writer at block g: its row's value, what is held, how many bits. -/
def IsW (W : World) (g : Nat) (v : Value) (h n : Nat) : Prop := W.heap[g]? = some (.cells #[v, .int .i64 (h : Int), .int .i64 (n : Int)] 77 (0, 0))
/-- A row of bytes of the call's own. -/
def Row (W : World) (B : Nat) (v : Value) (xs : List Int) : Prop := W.ownsRow B 5 1 v xs.length (nums .u8 xs)

/-- Whole bytes go out. -/
def wflush (xs : List Int) (h n : Nat) : List Int × Nat × Nat := if 8 ≤ n then wflush (xs ++ [((h % 256 : Nat) : Int)]) (h / 256) (n - 8) else (xs, h, n)
termination_by n
theorem wflush_go {xs : List Int} {h n : Nat} (c : 8 ≤ n) : wflush (xs ++ [((h % 256 : Nat) : Int)]) (h / 256) (n - 8) = wflush xs h n := by
  conv => rhs; unfold wflush
  rw [if_pos c]
theorem wflush_end {xs : List Int} {h n : Nat} (c : ¬ 8 ≤ n) : wflush xs h n = (xs, h, n) := by
  unfold wflush
  rw [if_neg c]
/-- What Bits lays. -/
def wbitsF (xs : List Int) (h n : Nat) (x k : Int) : List Int × Nat × Nat :=
  if k < 0 ∨ 24 < k then (xs, h, n) else wflush xs (h + (x % 2 ^ k.toNat).toNat * 2 ^ n) (n + k.toNat)

/-- What is known of a writer behind a call on it. -/
structure WPost (W W' : World) (B g : Nat) (v v' : Value) (xs' : List Int) (h' n' : Nat) : Prop where
  st : IsW W' g v' h' n'
  row : Row W' B v' xs'
  fr : Fr (fun b => b = g ∨ v.ownBlock = some b) W W'
  at_ : v'.ownBlock = v.ownBlock ∨ ∃ b, v'.ownBlock = some b ∧ W.heap.size ≤ b

theorem row_ne {W : World} {B g : Nat} {v : Value} {xs : List Int} {cs : Array Value} {t : TypeId} (hR : Row W B v xs) (hI : W.heap[g]? = some (.cells cs t (0, 0))) (ht : t ≠ 5) : some g ≠ v.ownBlock := own_ne hR hI (Ne.symm ht)
theorem wrow_ne {W : World} {B g : Nat} {v v' : Value} {h n : Nat} {xs : List Int} (hR : Row W B v xs) (hI : IsW W g v' h n) : some g ≠ v.ownBlock := row_ne hR hI (by decide)

set_option maxHeartbeats 1000000 in
set_option maxRecDepth 100000 in
theorem wbits_yes (W : World) (B g : Nat) (v : Value) (xs : List Int) (h n k : Nat) (x : Int) (hI : IsW W g v h n) (hR : Row W B v xs) (hB : B ≤ W.heap.size) (hn : n ≤ 7) (hh : h < 2 ^ n) (hk : k ≤ 24) (hx : xs.length ≤ 1000000000000) :
    Calls Try.prog 29 #[.pointer (some ⟨g, 0, none⟩), .int .i64 x, .int .i64 (k : Int)] W fun e W' => e = .returned (.tuple #[]) ∧ ∃ v', WPost W W' B g v v' (wflush xs (h + (x % 2 ^ k).toNat * 2 ^ n) (n + k)).1 (wflush xs (h + (x % 2 ^ k).toNat * 2 ^ n) (n + k)).2.1 (wflush xs (h + (x % 2 ^ k).toNat * 2 ^ n) (n + k)).2.2 := by
  obtain ⟨A0, C0, rfl⟩ := own_slice hR
  have hI := Aside0.mk hI
  have hR := Aside0.mk hR
  have k0 : decide ((k : Int) < 0) = false := decide_eq_false (by omega)
  have k24 : decide ((24 : Int) < (k : Int)) = false := decide_eq_false (by omega)
  have k24' : decide (24 < k) = false := decide_eq_false (by omega)
  have c1 : W.cell? ⟨g, 1, none⟩ = some (.int .i64 (h : Int)) := (blk_cell hI.out 1).trans rfl
  have c2 : W.cell? ⟨g, 2, none⟩ = some (.int .i64 (n : Int)) := (blk_cell hI.out 2).trans rfl
  have f1 := blk_frozen hI.out 1
  have f2 := blk_frozen hI.out 2
  go_enter Try.func29, Try.ntmps29
  go_wp2
  refine start_ (n := 18) (S := fun w' => w'.cell? ⟨g, 1, none⟩ = some (.int .i64 (h : Int)) ∧ w'.cell? ⟨g, 2, none⟩ = some (.int .i64 (n : Int))) (ds := [17]) #[false, false, false, false, false, false, false, false, false, false, false, false, false, false, false, false, false, false] (by kernel_rfl) rfl rfl ⟨c1, c2⟩ (fun hHeld => ?_)
  refine pure_ (i := 0) (N := some 16) (v := ?_) (a' := ?_) #[true, false, false, false, false, false, false, false, false, false, false, false, false, false, false, false, false, false] rfl rfl (by kernel_rfl) (fun _ _ _ h => h) (Or.inl ⟨by rfl, ?_⟩) ?_ ?_
  rotate_left
  · intro w'
    go_simp
    with_reducible rfl
  rotate_left
  · simp only [Act.put, List.setIfInBounds_toArray, List.set_cons_zero, List.set_cons_succ, i64_w, i32_w]
    rfl
  refine pure_ (i := 1) (N := some 17) (v := ?_) (a' := ?_) #[true, true, false, false, false, false, false, false, false, false, false, false, false, false, false, false, false, false] rfl rfl (by kernel_rfl) (fun _ _ _ h => h) (Or.inl ⟨by rfl, ?_⟩) ?_ ?_
  rotate_left
  · intro w'
    go_simp
    with_reducible rfl
  rotate_left
  · simp only [Act.put, List.setIfInBounds_toArray, List.set_cons_zero, List.set_cons_succ, i64_w, i32_w]
    rfl
  refine pure_ (i := 2) (N := some 18) (v := ?_) (a' := ?_) #[true, true, true, false, false, false, false, false, false, false, false, false, false, false, false, false, false, false] rfl rfl (by kernel_rfl) (fun _ _ _ h => h) (Or.inl ⟨by rfl, ?_⟩) ?_ ?_
  rotate_left
  · intro w'
    go_simp
    with_reducible rfl
  rotate_left
  · simp only [Act.put, List.setIfInBounds_toArray, List.set_cons_zero, List.set_cons_succ, i64_w, i32_w]
    rfl
  refine pure_ (i := 4) (N := some 20) (v := ?_) (a' := ?_) #[true, true, true, false, true, false, false, false, false, false, false, false, false, false, false, false, false, false] rfl rfl (by kernel_rfl) (fun _ _ _ h => h) (Or.inl ⟨by rfl, ?_⟩) ?_ ?_
  rotate_left
  · intro w'
    go_simp
    with_reducible rfl
  rotate_left
  · simp only [Act.put, List.setIfInBounds_toArray, List.set_cons_zero, List.set_cons_succ, i64_w, i32_w]
    rfl
  refine pure_ (i := 5) (N := some 21) (v := ?_) (a' := ?_) #[true, true, true, false, true, true, false, false, false, false, false, false, false, false, false, false, false, false] rfl rfl (by kernel_rfl) (fun _ _ _ h => h) (Or.inl ⟨by rfl, ?_⟩) ?_ ?_
  rotate_left
  · intro w'
    go_simp
    with_reducible rfl
  rotate_left
  · simp only [Act.put, List.setIfInBounds_toArray, List.set_cons_zero, List.set_cons_succ, i64_w, i32_w]
    rfl
  refine pure_ (i := 6) (N := some 22) (v := ?_) (a' := ?_) #[true, true, true, false, true, true, true, false, false, false, false, false, false, false, false, false, false, false] rfl rfl (by kernel_rfl) (fun _ _ _ h => h) (Or.inl ⟨by rfl, ?_⟩) ?_ ?_
  rotate_left
  · intro w'
    go_simp
    with_reducible rfl
  rotate_left
  · simp only [Act.put, List.setIfInBounds_toArray, List.set_cons_zero, List.set_cons_succ, i64_w, i32_w]
    rfl
  refine pure_ (i := 7) (N := some 23) (v := ?_) (a' := ?_) #[true, true, true, false, true, true, true, true, false, false, false, false, false, false, false, false, false, false] rfl rfl (by kernel_rfl) (fun _ _ _ h => h) (Or.inl ⟨by rfl, ?_⟩) ?_ ?_
  rotate_left
  · intro w'
    go_simp
    with_reducible rfl
  rotate_left
  · simp only [Act.put, List.setIfInBounds_toArray, List.set_cons_zero, List.set_cons_succ, i64_w, i32_w]
    rfl
  refine pure_ (i := 8) (N := some 24) (v := ?_) (a' := ?_) #[true, true, true, false, true, true, true, true, true, false, false, false, false, false, false, false, false, false] rfl rfl (by kernel_rfl) (fun _ _ _ h => h) (Or.inl ⟨by rfl, ?_⟩) ?_ ?_
  rotate_left
  · intro w'
    go_simp
    with_reducible rfl
  rotate_left
  · simp only [Act.put, List.setIfInBounds_toArray, List.set_cons_zero, List.set_cons_succ, i64_w, i32_w]
    rfl
  refine pure_ (i := 9) (N := some 25) (v := ?_) (a' := ?_) #[true, true, true, false, true, true, true, true, true, true, false, false, false, false, false, false, false, false] rfl rfl (by kernel_rfl) (fun _ _ _ h => h) (Or.inl ⟨by rfl, ?_⟩) ?_ ?_
  rotate_left
  · intro w'
    go_simp
    with_reducible rfl
  rotate_left
  · simp only [Act.put, List.setIfInBounds_toArray, List.set_cons_zero, List.set_cons_succ, i64_w, i32_w]
    rfl
  refine pure_ (i := 10) (N := some 26) (v := ?_) (a' := ?_) #[true, true, true, false, true, true, true, true, true, true, true, false, false, false, false, false, false, false] rfl rfl (by kernel_rfl) (fun _ _ _ h => h) (Or.inl ⟨by rfl, ?_⟩) ?_ ?_
  rotate_left
  · intro w'
    go_simp
    with_reducible rfl
  rotate_left
  · simp only [Act.put, List.setIfInBounds_toArray, List.set_cons_zero, List.set_cons_succ, i64_w, i32_w]
    rfl
  refine pure_ (i := 11) (N := some 27) (v := ?_) (a' := ?_) #[true, true, true, false, true, true, true, true, true, true, true, true, false, false, false, false, false, false] rfl rfl (by kernel_rfl) (fun _ _ _ h => h) (Or.inl ⟨by rfl, ?_⟩) ?_ ?_
  rotate_left
  · intro w'
    go_simp
    with_reducible rfl
  rotate_left
  · simp only [Act.put, List.setIfInBounds_toArray, List.set_cons_zero, List.set_cons_succ, i64_w, i32_w]
    rfl
  refine take_ (i := 3) (N := some 19) (v := ?_) (a' := ?_) #[true, true, true, true, true, true, true, true, true, true, true, true, false, false, false, false, false, false] rfl rfl (by kernel_rfl) (fun _ _ _ h => h) (Or.inl ⟨by rfl, ?_⟩) hHeld ?_ ?_
  rotate_left
  · rintro w' ⟨s0, s1⟩
    go_simp
    with_reducible rfl
  rotate_left
  · simp only [Act.put, List.setIfInBounds_toArray, List.set_cons_zero, List.set_cons_succ, i64_w, i32_w]
    rfl
  refine take_ (i := 12) (N := some 28) (v := ?_) (a' := ?_) #[true, true, true, true, true, true, true, true, true, true, true, true, true, false, false, false, false, false] rfl rfl (by kernel_rfl) (fun _ _ _ h => h) (Or.inl ⟨by rfl, ?_⟩) hHeld ?_ ?_
  rotate_left
  · rintro w' ⟨s0, s1⟩
    go_simp
    with_reducible rfl
  rotate_left
  · simp only [Act.put, List.setIfInBounds_toArray, List.set_cons_zero, List.set_cons_succ, i64_w, i32_w]
    rfl
  refine pure_ (i := 13) (N := some 29) (v := ?_) (a' := ?_) #[true, true, true, true, true, true, true, true, true, true, true, true, true, true, false, false, false, false] rfl rfl (by kernel_rfl) (fun _ _ _ h => h) (Or.inl ⟨by rfl, ?_⟩) ?_ ?_
  rotate_left
  · intro w'
    go_simp
    with_reducible rfl
  rotate_left
  · simp only [Act.put, List.setIfInBounds_toArray, List.set_cons_zero, List.set_cons_succ, i64_w, i32_w]
    rfl
  refine pure_ (i := 14) (N := some 30) (v := ?_) (a' := ?_) #[true, true, true, true, true, true, true, true, true, true, true, true, true, true, true, false, false, false] rfl rfl (by kernel_rfl) (fun _ _ _ h => h) (Or.inl ⟨by rfl, ?_⟩) ?_ ?_
  rotate_left
  · intro w'
    go_simp
    with_reducible rfl
  rotate_left
  · simp only [Act.put, List.setIfInBounds_toArray, List.set_cons_zero, List.set_cons_succ, i64_w, i32_w]
    rfl
  refine pure_ (i := 15) (N := some 31) (v := ?_) (a' := ?_) #[true, true, true, true, true, true, true, true, true, true, true, true, true, true, true, true, false, false] rfl rfl (by kernel_rfl) (fun _ _ _ h => h) (Or.inl ⟨by rfl, ?_⟩) ?_ ?_
  rotate_left
  · intro w'
    go_simp
    with_reducible rfl
  rotate_left
  · simp only [Act.put, List.setIfInBounds_toArray, List.set_cons_zero, List.set_cons_succ, i64_w, i32_w]
    rfl
  refine pure_ (i := 16) (N := some 32) (v := ?_) (a' := ?_) #[true, true, true, true, true, true, true, true, true, true, true, true, true, true, true, true, true, false] rfl rfl (by kernel_rfl) (fun _ _ _ h => h) (Or.inl ⟨by rfl, ?_⟩) ?_ ?_
  rotate_left
  · intro w'
    go_simp
    with_reducible rfl
  rotate_left
  · simp only [Act.put, List.setIfInBounds_toArray, List.set_cons_zero, List.set_cons_succ, i64_w, i32_w]
    rfl
  refine last_ (i := 17) (N := none) #[true, true, true, true, true, true, true, true, true, true, true, true, true, true, true, true, true, true] rfl rfl (by kernel_rfl) (by decide) (fun K hK => ?_)
  refine skip_ (w1 := ?_) (by rfl) rfl ?_ ?_
  rotate_left
  · go_simp
    rfl
  refine hK.out _ _ ?_
  clear hK K
  refine done_ (by kernel_rfl) ?_
  rw [wr_or x h n k hn hk hh]
  obtain ⟨H2, hH2⟩ : ∃ H2 : Nat, H2 = h + (x % 2 ^ k).toNat * 2 ^ n := ⟨_, rfl⟩
  have hlt2 : H2 < 2 ^ (n + k) := by rw [hH2]; exact wr_lt x h n k hh
  rw [← hH2]
  have hlt2 := Aside0.mk hlt2
  have HI2 : Aside0 (IsW (W.setCell ⟨g, 1, none⟩ (.int .i64 (H2 : Int))).drew g (.slice A0 xs.length C0) H2 n) := ⟨blk_set hI.out 1 (.int .i64 (H2 : Int))⟩
  have HR2 : Aside0 (Fr (fun b => b = g ∨ (Value.slice A0 xs.length C0).ownBlock = some b) W (W.setCell ⟨g, 1, none⟩ (.int .i64 (H2 : Int))).drew) := ⟨((Fr.refl _ W).set_ _ _ (fun _ => .inl rfl)).drew⟩
  have HO2 : Aside0 (Row (W.setCell ⟨g, 1, none⟩ (.int .i64 (H2 : Int))).drew B (.slice A0 xs.length C0) xs) := ⟨own_setCell hR.out (wrow_ne hR.out hI.out) _⟩
  obtain ⟨W2, hW2⟩ : ∃ W2, (W.setCell ⟨g, 1, none⟩ (.int .i64 (H2 : Int))).drew = W2 := ⟨_, rfl⟩
  rw [hW2] at HI2 HR2 HO2 ⊢
  have hH2 := Aside0.mk hH2
  clear hW2 hHeld c1 c2 f1 f2
  have c2 : W2.cell? ⟨g, 2, none⟩ = some (.int .i64 (n : Int)) := (blk_cell HI2.out 2).trans rfl
  have f2 := blk_frozen HI2.out 2
  go_wp2
  have HI3 : Aside0 (IsW (W2.setCell ⟨g, 2, none⟩ (.int .i64 ((n : Int) + (k : Int)))) g (.slice A0 xs.length C0) H2 (n + k)) := ⟨by
    have hz := blk_set HI2.out 2 (.int .i64 ((n + k : Nat) : Int))
    rw [Int.natCast_add] at hz
    exact hz⟩
  have HR3 : Aside0 (Fr (fun b => b = g ∨ (Value.slice A0 xs.length C0).ownBlock = some b) W (W2.setCell ⟨g, 2, none⟩ (.int .i64 ((n : Int) + (k : Int))))) := ⟨HR2.out.set_ _ _ (fun _ => .inl rfl)⟩
  have HO3 : Aside0 (Row (W2.setCell ⟨g, 2, none⟩ (.int .i64 ((n : Int) + (k : Int)))) B (.slice A0 xs.length C0) xs) := ⟨own_setCell HO2.out (wrow_ne HO2.out HI2.out) _⟩
  go_loopg [] (n + k) (fun gh wr => ∃ (v1 : Value) (xs1 : List Int) (h1 n1 : Nat), Aside0 (IsW wr g v1 h1 n1) ∧ Aside0 (Row wr B v1 xs1) ∧ Aside0 (wflush xs1 h1 n1 = wflush xs H2 (n + k)) ∧ n1 ≤ 31 ∧ n1 ≤ gh ∧ xs1.length + n1 ≤ 1000000000031 ∧ Aside0 (Fr (fun b => b = g ∨ (Value.slice A0 xs.length C0).ownBlock = some b) W wr) ∧ Aside0 (v1.ownBlock = (Value.slice A0 xs.length C0).ownBlock ∨ ∃ b, v1.ownBlock = some b ∧ W.heap.size ≤ b))
  case atStart => exact ⟨_, xs, H2, n + k, HI3, HO3, ⟨rfl⟩, by omega, Nat.le_refl _, by omega, HR3, ⟨.inl rfl⟩⟩
  case round =>
    clear HI3 HR3 HO3 HI2 HR2 HO2 c2 f2
    obtain ⟨v1, xs1, h1, n1, HI, HO, HF, hn1, hg, hl1, HR, HA⟩ := hrel
    obtain ⟨A1, C1, rfl⟩ := own_slice HO.out
    have c0 : wr.cell? ⟨g, 0, none⟩ = some (.slice A1 xs1.length C1) := (blk_cell HI.out 0).trans rfl
    have c1 : wr.cell? ⟨g, 1, none⟩ = some (.int .i64 (h1 : Int)) := (blk_cell HI.out 1).trans rfl
    have c2 : wr.cell? ⟨g, 2, none⟩ = some (.int .i64 (n1 : Int)) := (blk_cell HI.out 2).trans rfl
    have f0 := blk_frozen HI.out 0
    have f1 := blk_frozen HI.out 1
    have f2 := blk_frozen HI.out 2
    by_cases hc : 8 ≤ n1
    · have hcb : decide (8 ≤ n1) = true := decide_eq_true hc
      have hcb' : decide ((8 : Int) ≤ (n1 : Int)) = true := decide_eq_true (by omega)
      have glt : g < wr.heap.size := blk_lt HI.out
      have hgv := Aside0.mk (wrow_ne HO.out HI.out)
      have hbel := Aside0.mk (Below.refl B wr.drew)
      have hble : B ≤ wr.drew.heap.size := Nat.le_trans hB HR.out.size
      have hcB : ∀ (j : Nat) (W1 : World), W1.heap[g]? = wr.heap[g]? → W1.cell? ⟨g, j, none⟩ = #[.slice A1 xs1.length C1, Value.int .i64 (h1 : Int), .int .i64 (n1 : Int)][j]? := fun j W1 hW => blk_cell (hW.trans HI.out) j
      go_wp2
      refine start_ (n := 15) (S := fun w' => w'.cell? ⟨g, 0, none⟩ = some (.slice A1 xs1.length C1) ∧ w'.cell? ⟨g, 1, none⟩ = some (.int .i64 (h1 : Int))) (ds := [14]) #[false, false, false, false, false, false, false, false, false, false, false, false, false, false, false] (by kernel_rfl) rfl rfl ⟨c0, c1⟩ (fun hHeld => ?_)
      refine pure_ (i := 0) (N := some 53) (v := ?_) (a' := ?_) #[true, false, false, false, false, false, false, false, false, false, false, false, false, false, false] rfl rfl (by kernel_rfl) (fun _ _ _ h => h) (Or.inl ⟨by rfl, ?_⟩) ?_ ?_
      rotate_left
      · intro w'
        go_simp
        with_reducible rfl
      rotate_left
      · simp only [Act.put, List.setIfInBounds_toArray, List.set_cons_zero, List.set_cons_succ, i64_w, i32_w]
        rfl
      refine pure_ (i := 1) (N := some 54) (v := ?_) (a' := ?_) #[true, true, false, false, false, false, false, false, false, false, false, false, false, false, false] rfl rfl (by kernel_rfl) (fun _ _ _ h => h) (Or.inl ⟨by rfl, ?_⟩) ?_ ?_
      rotate_left
      · intro w'
        go_simp
        with_reducible rfl
      rotate_left
      · simp only [Act.put, List.setIfInBounds_toArray, List.set_cons_zero, List.set_cons_succ, i64_w, i32_w]
        rfl
      refine pure_ (i := 2) (N := some 55) (v := ?_) (a' := ?_) #[true, true, true, false, false, false, false, false, false, false, false, false, false, false, false] rfl rfl (by kernel_rfl) (fun _ _ _ h => h) (Or.inl ⟨by rfl, ?_⟩) ?_ ?_
      rotate_left
      · intro w'
        go_simp
        with_reducible rfl
      rotate_left
      · simp only [Act.put, List.setIfInBounds_toArray, List.set_cons_zero, List.set_cons_succ, i64_w, i32_w]
        rfl
      refine pure_ (i := 3) (N := some 56) (v := ?_) (a' := ?_) #[true, true, true, true, false, false, false, false, false, false, false, false, false, false, false] rfl rfl (by kernel_rfl) (fun _ _ _ h => h) (Or.inl ⟨by rfl, ?_⟩) ?_ ?_
      rotate_left
      · intro w'
        go_simp
        with_reducible rfl
      rotate_left
      · simp only [Act.put, List.setIfInBounds_toArray, List.set_cons_zero, List.set_cons_succ, i64_w, i32_w]
        rfl
      refine pure_ (i := 5) (N := some 58) (v := ?_) (a' := ?_) #[true, true, true, true, false, true, false, false, false, false, false, false, false, false, false] rfl rfl (by kernel_rfl) (fun _ _ _ h => h) (Or.inl ⟨by rfl, ?_⟩) ?_ ?_
      rotate_left
      · intro w'
        go_simp
        with_reducible rfl
      rotate_left
      · simp only [Act.put, List.setIfInBounds_toArray, List.set_cons_zero, List.set_cons_succ, i64_w, i32_w]
        rfl
      refine pure_ (i := 6) (N := some 59) (v := ?_) (a' := ?_) #[true, true, true, true, false, true, true, false, false, false, false, false, false, false, false] rfl rfl (by kernel_rfl) (fun _ _ _ h => h) (Or.inl ⟨by rfl, ?_⟩) ?_ ?_
      rotate_left
      · intro w'
        go_simp
        with_reducible rfl
      rotate_left
      · simp only [Act.put, List.setIfInBounds_toArray, List.set_cons_zero, List.set_cons_succ, i64_w, i32_w]
        rfl
      refine pure_ (i := 7) (N := some 60) (v := ?_) (a' := ?_) #[true, true, true, true, false, true, true, true, false, false, false, false, false, false, false] rfl rfl (by kernel_rfl) (fun _ _ _ h => h) (Or.inl ⟨by rfl, ?_⟩) ?_ ?_
      rotate_left
      · intro w'
        go_simp
        with_reducible rfl
      rotate_left
      · simp only [Act.put, List.setIfInBounds_toArray, List.set_cons_zero, List.set_cons_succ, i64_w, i32_w]
        rfl
      refine take_ (i := 4) (N := some 57) (v := ?_) (a' := ?_) #[true, true, true, true, true, true, true, true, false, false, false, false, false, false, false] rfl rfl (by kernel_rfl) (fun _ _ _ h => h) (Or.inl ⟨by rfl, ?_⟩) hHeld ?_ ?_
      rotate_left
      · rintro w' ⟨s0, s1⟩
        go_simp
        with_reducible rfl
      rotate_left
      · simp only [Act.put, List.setIfInBounds_toArray, List.set_cons_zero, List.set_cons_succ, i64_w, i32_w]
        rfl
      refine take_ (i := 8) (N := some 61) (v := ?_) (a' := ?_) #[true, true, true, true, true, true, true, true, true, false, false, false, false, false, false] rfl rfl (by kernel_rfl) (fun _ _ _ h => h) (Or.inl ⟨by rfl, ?_⟩) hHeld ?_ ?_
      rotate_left
      · rintro w' ⟨s0, s1⟩
        go_simp
        with_reducible rfl
      rotate_left
      · simp only [Act.put, List.setIfInBounds_toArray, List.set_cons_zero, List.set_cons_succ, i64_w, i32_w]
        rfl
      refine pure_ (i := 9) (N := some 62) (v := ?_) (a' := ?_) #[true, true, true, true, true, true, true, true, true, true, false, false, false, false, false] rfl rfl (by kernel_rfl) (fun _ _ _ h => h) (Or.inl ⟨by rfl, ?_⟩) ?_ ?_
      rotate_left
      · intro w'
        go_simp
        with_reducible rfl
      rotate_left
      · simp only [Act.put, List.setIfInBounds_toArray, List.set_cons_zero, List.set_cons_succ, i64_w, i32_w]
        rfl
      refine one_ (i := 10) (N := some 63) #[true, true, true, true, true, true, true, true, true, true, true, false, false, false, false] rfl rfl (by kernel_rfl) (by decide) (fun K hK => ?_)
      refine value_ (w1 := ?_) (v := ?_) (by rfl) rfl ?_ ?_
      rotate_left 2
      · go_simp
        constructor
        · rfl
        · rfl
      refine hK.out _ _ ⟨hcB 0 _ (Below.heap_alloc _ _ _ glt), hcB 1 _ (Below.heap_alloc _ _ _ glt)⟩ (fun hHeld => ?_)
      clear hK K
      refine norm_ (a' := ?_) ?_ ?_
      rotate_left
      · show Act.put _ (some 63) _ = _
        simp only [Act.put, List.setIfInBounds_toArray, List.set_cons_zero, List.set_cons_succ, i64_w, i32_w]
        rfl
      refine one_ (i := 11) (N := some 64) #[true, true, true, true, true, true, true, true, true, true, true, true, false, false, false] rfl rfl (by kernel_rfl) (by decide) (fun K hK => ?_)
      refine step_append_cells (w0 := wr.drew) B (by rfl) (.tmp 57) (.tmp 63) 43 5 (.int .u8 0) 1 1 rfl Try.underlying43 info5 rfl (by decide) (by decide) (.slice A1 xs1.length C1) xs1.length (nums .u8 xs1) [.int .u8 ((h1 : Int) % 256)] rfl rfl rfl (by simp [Value.oneCell']) (show wr.drew.ownsRow B 5 1 _ xs1.length (nums .u8 xs1) from HO.out) hbel.out hble ?_ ?_
      · omega
      intro v2 w2 hown2 hb2 hg2 hat2
      refine hK.out _ _ ⟨hcB 0 _ (hg2.block g glt hgv.out), hcB 1 _ (hg2.block g glt hgv.out)⟩ (fun hHeld => ?_)
      clear hK K
      refine norm_ (a' := ?_) ?_ ?_
      rotate_left
      · show Act.put _ (some 64) _ = _
        simp only [Act.put, List.setIfInBounds_toArray, List.set_cons_zero, List.set_cons_succ, i64_w, i32_w]
        rfl
      refine pure_ (i := 12) (N := some 65) (v := ?_) (a' := ?_) #[true, true, true, true, true, true, true, true, true, true, true, true, true, false, false] rfl rfl (by kernel_rfl) (fun _ _ _ h => h) (Or.inl ⟨by rfl, ?_⟩) ?_ ?_
      rotate_left
      · intro w'
        go_simp
        with_reducible rfl
      rotate_left
      · simp only [Act.put, List.setIfInBounds_toArray, List.set_cons_zero, List.set_cons_succ, i64_w, i32_w]
        rfl
      refine pure_ (i := 13) (N := some 66) (v := ?_) (a' := ?_) #[true, true, true, true, true, true, true, true, true, true, true, true, true, true, false] rfl rfl (by kernel_rfl) (fun _ _ _ h => h) (Or.inl ⟨by rfl, ?_⟩) ?_ ?_
      rotate_left
      · intro w'
        go_simp
        with_reducible rfl
      rotate_left
      · simp only [Act.put, List.setIfInBounds_toArray, List.set_cons_zero, List.set_cons_succ, i64_w, i32_w]
        rfl
      refine last_ (i := 14) (N := none) #[true, true, true, true, true, true, true, true, true, true, true, true, true, true, true] rfl rfl (by kernel_rfl) (by decide) (fun K hK => ?_)
      have hI2 : w2.heap[g]? = some (.cells #[.slice A1 xs1.length C1, .int .i64 (h1 : Int), .int .i64 (n1 : Int)] 77 (0, 0)) := (hg2.block g glt hgv.out).trans HI.out
      have hc2 : w2.cell? ⟨g, 0, none⟩ = some (.slice A1 xs1.length C1) := (blk_cell hI2 0).trans rfl
      have hf2 := blk_frozen hI2 0
      obtain ⟨A2, C2, rfl⟩ := own_slice hown2
      refine skip_ (w1 := ?_) (by rfl) rfl ?_ ?_
      rotate_left
      · go_simp
        rfl
      refine hK.out _ _ ?_
      clear hK K
      refine done_ (by kernel_rfl) ?_
      have em : ((h1 % 256 : Nat) : Int) = (h1 : Int) % 256 := Int.natCast_emod _ _
      have HI4 : Aside0 (IsW (w2.setCell ⟨g, 0, none⟩ (.slice A2 (xs1.length + 1) C2)) g (.slice A2 (xs1.length + 1) C2) h1 n1) := ⟨blk_set hI2 0 _⟩
      have HO4 : Aside0 (Row (w2.setCell ⟨g, 0, none⟩ (.slice A2 (xs1.length + 1) C2)) B (.slice A2 (xs1.length + 1) C2) (xs1 ++ [((h1 % 256 : Nat) : Int)])) := ⟨by
        unfold Row
        rw [em, nums_append, List.length_append]
        exact own_setCell hown2 (own_ne hown2 hI2 (by decide)) _⟩
      have HA4 : Aside0 ((Value.slice A2 (xs1.length + 1) C2).ownBlock = (Value.slice A0 xs.length C0).ownBlock ∨ ∃ b, (Value.slice A2 (xs1.length + 1) C2).ownBlock = some b ∧ W.heap.size ≤ b) := ⟨by
        rcases hat2 with h5 | ⟨b, h5, h6⟩
        · rw [h5]; exact HA.out
        · exact .inr ⟨b, h5, Nat.le_trans HR.out.size h6⟩⟩
      have HR4 : Aside0 (Fr (fun b => b = g ∨ (Value.slice A0 xs.length C0).ownBlock = some b) W (w2.setCell ⟨g, 0, none⟩ (.slice A2 (xs1.length + 1) C2))) := ⟨(HR.out.drew.grown hg2 (fun b hb hlt => by
        rcases HA.out with h5 | ⟨b', h5, h6⟩
        · rw [h5] at hb; exact .inr hb
        · rw [h5] at hb; cases hb; omega)).set_ _ _ (fun _ => .inl rfl)⟩
      have HF4 : Aside0 (wflush (xs1 ++ [((h1 % 256 : Nat) : Int)]) (h1 / 256) (n1 - 8) = wflush xs H2 (n + k)) := ⟨(wflush_go hc).trans HF.out⟩
      obtain ⟨W4, hW4⟩ : ∃ W4, w2.setCell ⟨g, 0, none⟩ (.slice A2 (xs1.length + 1) C2) = W4 := ⟨_, rfl⟩
      rw [hW4] at HI4 HO4 HR4 ⊢
      clear hW4 hHeld hcB hgv hbel hble hI2 hc2 hf2 hown2 hat2 hg2 c0 c1 c2 f0 f1 f2 HI HO HR HF HA glt hb2 em
      have c1 : W4.cell? ⟨g, 1, none⟩ = some (.int .i64 (h1 : Int)) := (blk_cell HI4.out 1).trans rfl
      have c2 : W4.cell? ⟨g, 2, none⟩ = some (.int .i64 (n1 : Int)) := (blk_cell HI4.out 2).trans rfl
      have f1 := blk_frozen HI4.out 1
      have f2 := blk_frozen HI4.out 2
      go_wp2
      go_roundg (n1 - 8)
      case measure => omega
      case rel =>
        have e1 : ((h1 / 256 : Nat) : Int) = (h1 : Int) / 256 := Int.natCast_ediv _ _
        have e2 : ((n1 - 8 : Nat) : Int) = (n1 : Int) - 8 := by omega
        have hz := blk_set (blk_set HI4.out 1 (.int .i64 ((h1 / 256 : Nat) : Int))) 2 (.int .i64 ((n1 - 8 : Nat) : Int))
        refine ⟨.slice A2 (xs1.length + 1) C2, xs1 ++ [((h1 % 256 : Nat) : Int)], h1 / 256, n1 - 8, ⟨?_⟩, ⟨?_⟩, HF4, by omega, Nat.le_refl _, by simp; omega, ⟨(HR4.out.set_ ⟨g, 1, none⟩ _ (fun _ => .inl rfl)).set_ ⟨g, 2, none⟩ _ (fun _ => .inl rfl)⟩, HA4⟩
        · unfold IsW
          rw [e1, e2] at hz ⊢
          exact hz
        · exact own_setCell (own_setCell HO4.out (wrow_ne HO4.out HI4.out) _) (wrow_ne HO4.out HI4.out) _
    · have hcb : decide (8 ≤ n1) = false := decide_eq_false hc
      have hcb' : decide ((8 : Int) ≤ (n1 : Int)) = false := decide_eq_false (by omega)
      go_wp2
      go_end0
      rw [← hH2.out, ← HF.out, wflush_end hc]
      exact ⟨rfl, _, HI.out, HO.out, HR.out, HA.out⟩

set_option maxHeartbeats 400000 in
theorem wbits_no (W : World) (g : Nat) (x k : Int) (hk : k < 0 ∨ 24 < k) :
    Calls Try.prog 29 #[.pointer (some ⟨g, 0, none⟩), .int .i64 x, .int .i64 k] W fun e W' => e = .returned (.tuple #[]) ∧ Drawn0 W W' := by
  by_cases h0 : k < 0
  · have k0 : decide (k < 0) = true := decide_eq_true h0
    clear hk
    go_enter Try.func29, Try.ntmps29
    go_wp2
    repeat (go_quiet (fail); try go_wp2)
    first | go_end0 | ((try simp only [Exit.inBlock, Exit.then]); refine bodyPost_ret (results_none rfl _ _ _) rfl ?_)
    exact ⟨rfl, by repeat (first | exact Drawn0.refl _ | apply Drawn0.step)⟩
  · have k0 : decide (k < 0) = false := decide_eq_false h0
    have k1 : decide (24 < k) = true := decide_eq_true (by omega)
    clear hk
    go_enter Try.func29, Try.ntmps29
    go_wp2
    repeat (go_quiet (fail); try go_wp2)
    first | go_end0 | ((try simp only [Exit.inBlock, Exit.then]); refine bodyPost_ret (results_none rfl _ _ _) rfl ?_)
    exact ⟨rfl, by repeat (first | exact Drawn0.refl _ | apply Drawn0.step)⟩

theorem wbits_calls (W : World) (B g : Nat) (v : Value) (xs : List Int) (h n : Nat) (x k : Int) (hI : IsW W g v h n) (hR : Row W B v xs) (hB : B ≤ W.heap.size) (hn : n ≤ 7) (hh : h < 2 ^ n) (hx : xs.length ≤ 1000000000000) :
    Calls Try.prog 29 #[.pointer (some ⟨g, 0, none⟩), .int .i64 x, .int .i64 k] W fun e W' => e = .returned (.tuple #[]) ∧ ∃ v', WPost W W' B g v v' (wbitsF xs h n x k).1 (wbitsF xs h n x k).2.1 (wbitsF xs h n x k).2.2 := by
  unfold wbitsF
  by_cases hk : k < 0 ∨ 24 < k
  · rw [if_pos hk]
    refine (wbits_no W g x k hk).mono ?_
    rintro e w' ⟨rfl, hdr⟩
    have hf := Fr.of_drawn hdr
    exact ⟨rfl, v, hf.blk hI (fun e => e), hf.own hR (fun _ _ e => e), hf.mono (fun _ _ e => e.elim), .inl rfl⟩
  · rw [if_neg hk]
    obtain ⟨q, rfl⟩ : ∃ q : Nat, k = q := ⟨k.toNat, by omega⟩
    rw [Int.toNat_natCast]
    exact wbits_yes W B g v xs h n q x hI hR hB hn hh (by omega) hx

end Go.Proofs.Ytpldapjcojjicaa.B

namespace Go.Proofs.Ytpldapjcojjicaa.B
open Go.RowKit Go.Proofs.YtpldapjcojjicaaW.PrintWords
set_option linter.unusedVariables false
section
variable {P : Program} {ops : Array Oper} {o : Oper} {a : Act} {Q : Exit → Act → World → Prop} {K : Act → World → Prop}

theorem run_append_str_at (w : World) (base : Nat) (t u ty e : TypeId) (i : TypeInfo) (ht : P.underlying t = some (.slice e)) (hu : P.underlying u = some .string) (hi : P.info? e = some i) (hz : i.zero = some (.int .u8 0))
    (hsize : i.size = 1) (hby : i.bytes = 1)
    (v : Value) (n : Nat) (xs : List Value) (hown : w.ownsRow base e 1 v n xs) (s : ByteArray)
    (hbytes : n + s.size ≤ 140737488355328) (hbase : base ≤ w.heap.size) :
    ∃ v' w', (Builtin.append_ #[t, u] ty #[v, .string s]).run P w = .ok v' w' ∧ w'.ownsRow base e 1 v' (n + s.size) (xs ++ Lib.strCells s) ∧ w.grownBy w' v.ownBlock ∧
      (v'.ownBlock = v.ownBlock ∨ ∃ b, v'.ownBlock = some b ∧ w.heap.size ≤ b) := by
  have h63 : n + s.size ≤ maxLen := by simp only [maxLen]; omega
  obtain ⟨v', w', hr, h1, h2, h3⟩ := Lib.run_append_own_string (P := P) w base t u ty e i ht hu hi hz hsize hby v n xs hown s h63 hbytes hbase
  refine ⟨v', w', hr, h1, h2, ?_⟩
  have hxl : xs.length = n := by simpa using hown.1
  rcases hown.2 with ⟨rfl, rfl⟩ | ⟨g, cap, cur, rfl, hbg, hg, hnc, hcm, hcs, htake⟩
  · by_cases hm : s.size = 0
    · exact .inl (by rw [h3.2 ⟨rfl, hm⟩])
    · have hr2 := run_append_nil_string (P := P) w t u ty e i (.int .u8 0) ht hu hi hz s (by omega) (by omega) (by rw [hby]; omega)
      rw [hr2] at hr
      injection hr with hv hw
      subst hv
      exact .inr ⟨w.heap.size, rfl, Nat.le_refl _⟩
  · by_cases hroom : n + s.size ≤ cap
    · have hcs' : cur.size = cap := by simpa using hcs
      have hr2 := Lib.run_append_room_string (P := P) w t u ty e i ht hu hi hsize g n cap cur hg s hroom (by omega)
      rw [hr2] at hr
      injection hr with hv hw
      subst hv
      exact .inl rfl
    · have holds : ∀ j u, xs[j]? = some u → w.cell? ((⟨g, 0, none⟩ : Addr).add j) = some u := hown.cells (g := g) rfl
      have hr2 := Lib.run_append_grow_string (P := P) w t u ty e i (.int .u8 0) ht hu hi hz ⟨g, 0, none⟩ n cap xs (by rw [hsize]; simpa using hxl) holds s (by omega) (by omega) (by rw [hby]; exact growslice_fits (by omega) (by omega))
      rw [hr2] at hr
      injection hr with hv hw
      subst hv
      exact .inr ⟨w.heap.size, rfl, Nat.le_refl _⟩

theorem str_cells (xs : List Int) (y : ByteArray) : nums .u8 xs ++ Lib.strCells y = nums .u8 (xs ++ bytesOf y) := by
  rw [nums_append]
  congr 1
  simp [nums, bytesOf, Lib.strCells]

theorem step_append_str {w0 W : World} (base : Nat) (hw : Region.wanted o (yielded ops a.tmps) = true) (s x : Operand) (t u e : TypeId)
    (ho : o.op = .call { callee := .builtin .append, args := #[s, x], argTypes := #[t, u] })
    (ht : P.underlying t = some (.slice e)) (hu : P.underlying u = some .string) (hinfo : (P.info? e).map (fun i => (i.zero, i.size, i.bytes)) = some (some (.int .u8 0), 1, 1))
    (v : Value) (xs : List Int) (y : ByteArray) (hs : a.eval s = v) (hx : a.eval x = .string y)
    (HO : W.ownsRow base e 1 v xs.length (nums .u8 xs)) (HB : Below base w0 W) (hbase : base ≤ W.heap.size) (hl : xs.length + y.size ≤ 140737488355328)
    (h : ∀ v1 w1, w1.ownsRow base e 1 v1 (xs ++ bytesOf y).length (nums .u8 (xs ++ bytesOf y)) → Below base w0 w1 → W.grownBy w1 v.ownBlock → (v1.ownBlock = v.ownBlock ∨ ∃ b, v1.ownBlock = some b ∧ W.heap.size ≤ b) → K (a.put o.dst v1) w1) :
    if Region.wanted o (yielded ops a.tmps) = true then Oper.wp P o a W K Q else K (a.put o.dst undef) W := by
  obtain ⟨i0, hi, hzz⟩ := Option.map_eq_some_iff.1 hinfo
  simp only [Prod.mk.injEq] at hzz
  obtain ⟨hz0, hz1, hz2⟩ := hzz
  rw [if_pos hw]
  obtain ⟨v1, w1, hr, hown, hg, hat⟩ := run_append_str_at (P := P) W base t u o.type e i0 ht hu hi hz0 hz1 hz2 v xs.length (nums .u8 xs) HO y hl hbase
  have hl2 : (xs ++ bytesOf y).length = xs.length + y.size := by rw [List.length_append, bytesOf_length]
  unfold Oper.wp execOp
  simp only [ho, resolve, invoke, builtin, Sem.run_bind, Sem.run_pure, Result.andThen_ok, List.map_toArray, List.map_cons, List.map_nil, hs, hx, hr]
  exact h v1 w1 (by rw [hl2, ← str_cells]; exact hown) (HB.grown hg hbase (own_base HO)) hg hat

theorem print_append_str_at {rest : List Oper} {W : World} (base : Nat) (hgd : o.guard = none) (s x : Operand) (t u e : TypeId)
    (ho : o.op = .call { callee := .builtin .append, args := #[s, x], argTypes := #[t, u] })
    (ht : P.underlying t = some (.slice e)) (hu : P.underlying u = some .string) (hinfo : (P.info? e).map (fun i => (i.zero, i.size, i.bytes)) = some (some (.int .u8 0), 1, 1))
    (v : Value) (xs : List Int) (y : ByteArray) (hs : a.eval s = v) (hx : a.eval x = .string y)
    (HO : W.ownsRow base e 1 v xs.length (nums .u8 xs)) (hbase : base ≤ W.heap.size) (hl : xs.length + y.size ≤ 140737488355328)
    (h : ∀ v1 w1, w1.ownsRow base e 1 v1 (xs ++ bytesOf y).length (nums .u8 (xs ++ bytesOf y)) → W.grownBy w1 v.ownBlock → (v1.ownBlock = v.ownBlock ∨ ∃ b, v1.ownBlock = some b ∧ W.heap.size ≤ b) → wpList P ops Q rest (a.put o.dst v1) w1) :
    wpList P ops Q (o :: rest) a W := by
  obtain ⟨i0, hi, hzz⟩ := Option.map_eq_some_iff.1 hinfo
  simp only [Prod.mk.injEq] at hzz
  obtain ⟨hz0, hz1, hz2⟩ := hzz
  obtain ⟨v1, w1, hr, hown, hg, hat⟩ := run_append_str_at (P := P) W base t u o.type e i0 ht hu hi hz0 hz1 hz2 v xs.length (nums .u8 xs) HO y hl hbase
  have hl2 : (xs ++ bytesOf y).length = xs.length + y.size := by rw [List.length_append, bytesOf_length]
  refine wpList_plain hgd fun K hK => ?_
  unfold Oper.wp execOp
  simp only [ho, resolve, invoke, builtin, Sem.run_bind, Sem.run_pure, Result.andThen_ok, List.map_toArray, List.map_cons, List.map_nil, hs, hx, hr]
  exact hK _ _ (h v1 w1 (by rw [hl2, ← str_cells]; exact hown) hg hat)
end
end Go.Proofs.Ytpldapjcojjicaa.B

namespace Go.Proofs.Ytpldapjcojjicaa.B
open Go.RowKit Go.Proofs.YtpldapjcojjicaaW.PrintWords Go.Proofs.YtpldapjcojjicaaW.PrintLast
set_option linter.unusedVariables false
set_option linter.unusedSimpArgs false

/-- The row at a whole byte. -/
def wpadF (xs : List Int) (h n : Nat) : List Int := if n = 0 then xs else xs ++ [(h : Int)]
theorem wpad_eq (xs : List Int) (h n : Nat) (hn : n ≤ 7) (hh : h < 2 ^ n) : wbitsF xs h n 0 (((8 - n) % 8 : Nat) : Int) = (wpadF xs h n, 0, 0) := by
  have hle : h < 128 := Nat.lt_of_lt_of_le hh (two_pow_le (j := 7) hn)
  unfold wbitsF wpadF
  rw [if_neg (by omega), Int.toNat_natCast, Int.zero_emod]
  by_cases h0 : n = 0
  · subst h0
    rw [if_pos rfl]
    obtain rfl : h = 0 := by simpa using hh
    exact wflush_end (by decide)
  · rw [if_neg h0, show n + (8 - n) % 8 = 8 by omega]
    have e : h + (0 : Int).toNat * 2 ^ n = h := by simp
    rw [e, ← wflush_go (by decide), wflush_end (by decide), Nat.mod_eq_of_lt (by omega), Nat.div_eq_of_lt (by omega)]
/-- What a writer says. -/
def wtextF (xs : List Int) (h n : Nat) : ByteArray := strOfNums (wpadF xs h n)

set_option maxHeartbeats 400000 in
set_option maxRecDepth 100000 in
theorem wbytes_calls (W : World) (B g : Nat) (v : Value) (xs : List Int) (h n : Nat) (s : ByteArray) (hI : IsW W g v h n) (hR : Row W B v xs) (hB : B ≤ W.heap.size) (hn : n ≤ 7) (hh : h < 2 ^ n) (hx : xs.length ≤ 1000000000000) (hs : s.size ≤ 1000000000000) :
    Calls Try.prog 26 #[.pointer (some ⟨g, 0, none⟩), .string s] W fun e W' => e = .returned (.tuple #[]) ∧ ∃ v', WPost W W' B g v v' (wpadF xs h n ++ bytesOf s) 0 0 := by
  have hI0 := Aside0.mk hI
  have hR0 := Aside0.mk hR
  have c2 : W.cell? ⟨g, 2, none⟩ = some (.int .i64 (n : Int)) := (blk_cell hI 2).trans rfl
  have f2 := blk_frozen hI 2
  have hcall := wbits_calls W B g v xs h n 0 (((8 - n) % 8 : Nat) : Int) hI hR hB hn hh hx
  rw [wpad_eq xs h n hn hh] at hcall
  simp only [] at hcall
  have em : (((8 - n) % 8 : Nat) : Int) = (-(n : Int)) % 8 := by omega
  rw [em] at hcall
  have hcall := Aside0.mk hcall
  clear hI hR em
  have hlen : (wpadF xs h n).length + s.size ≤ 140737488355328 := by
    have : (wpadF xs h n).length ≤ xs.length + 1 := by unfold wpadF; split <;> simp
    omega
  go_enter Try.func26, Try.ntmps26
  go_wp2_with (first | (go_at_call 29; refine (hcall.out).mono ?_; rintro e w1 ⟨rfl, v1, hP0⟩; have hP := Aside0.mk hP0; clear hP0; obtain ⟨A1, C1, rfl⟩ := own_slice hP.out.row; have c0 : w1.cell? ⟨g, 0, none⟩ = some (.slice A1 (wpadF xs h n).length C1) := (blk_cell hP.out.st 0).trans rfl; have f0 := blk_frozen hP.out.st 0; have cA := c0; clear c2 f2) | (at_builtin; refine print_append_str_at B rfl (.tmp 18) (.tmp 19) 43 9 5 rfl Try.underlying43 Try.underlying9 info5 (.slice A1 (wpadF xs h n).length C1) (wpadF xs h n) s rfl rfl hP.out.row (Nat.le_trans hB hP.out.fr.size) ?_ ?_; (· exact hlen); intro v2 w2 hO2 hg2 hat2; obtain ⟨A2, C2, rfl⟩ := own_slice hO2; replace hO2 := Aside0.mk hO2; replace hg2 := Aside0.mk hg2; replace hat2 := Aside0.mk hat2; have hI2 : Aside0 (IsW w2 g (.slice A1 (wpadF xs h n).length C1) 0 0) := ⟨(hg2.out.block g (blk_lt hP.out.st) (wrow_ne hP.out.row hP.out.st)).trans hP.out.st⟩; have c2 : w2.cell? ⟨g, 0, none⟩ = some (.slice A1 (wpadF xs h n).length C1) := (blk_cell hI2.out 0).trans rfl; have f2 := blk_frozen hI2.out 0; clear c0 f0 cA))
  go_end0
  have hw := wrow_ne hP.out.row hP.out.st
  refine ⟨rfl, .slice A2 (wpadF xs h n ++ bytesOf s).length C2, ?_, ?_, ?_, ?_⟩
  · have hz := blk_set (show w2.heap[g]? = some (.cells #[.slice A1 (wpadF xs h n).length C1, .int .i64 ((0 : Nat) : Int), .int .i64 ((0 : Nat) : Int)] 77 (0, 0)) from hI2.out) 0 (.slice A2 (wpadF xs h n ++ bytesOf s).length C2)
    rw [List.length_append] at hz ⊢
    exact hz
  · exact own_setCell hO2.out (wrow_ne hO2.out hI2.out) _
  · refine (hP.out.fr.grown hg2.out (fun b hb hlt => ?_)).set_ _ _ (fun _ => .inl rfl)
    rcases hP.out.at_ with h5 | ⟨b', h5, h6⟩
    · exact .inr (h5.symm.trans hb)
    · rw [h5] at hb; cases hb; omega
  · rcases hat2.out with h5 | ⟨b, h5, h6⟩
    · rw [h5]; exact hP.out.at_
    · exact .inr ⟨b, h5, Nat.le_trans hP.out.fr.size h6⟩

theorem str_append (xs ys : List Int) : strOfNums (xs ++ ys) = strOfNums xs ++ strOfNums ys := by
  unfold strOfNums
  rw [List.map_append]
  apply ByteArray.ext
  simp

set_option maxHeartbeats 400000 in
set_option maxRecDepth 100000 in
theorem wtext_calls (W : World) (B g : Nat) (v : Value) (xs : List Int) (h n : Nat) (hI : IsW W g v h n) (hR : Row W B v xs) (hn : n ≤ 7) (hh : h < 2 ^ n) (hx : xs.length ≤ 1000000000000) :
    Calls Try.prog 31 #[.pointer (some ⟨g, 0, none⟩)] W fun e W' => e = .returned (.string (wtextF xs h n)) ∧ Fr (fun _ => False) W W' := by
  obtain ⟨A0, C0, rfl⟩ := own_slice hR
  have hle : h < 128 := Nat.lt_of_lt_of_le hh (two_pow_le (j := 7) hn)
  have hI0 := Aside0.mk hI
  have hR0 := Aside0.mk hR
  have c0 : W.cell? ⟨g, 0, none⟩ = some (.slice A0 xs.length C0) := (blk_cell hI 0).trans rfl
  have c1 : W.cell? ⟨g, 1, none⟩ = some (.int .i64 (h : Int)) := (blk_cell hI 1).trans rfl
  have c2 : W.cell? ⟨g, 2, none⟩ = some (.int .i64 (n : Int)) := (blk_cell hI 2).trans rfl
  have f0 := blk_frozen hI 0
  have f1 := blk_frozen hI 1
  have f2 := blk_frozen hI 2
  have hcv := own_string (P := Try.prog) Try.underlying43 Try.underlying5 Try.underlying9 hR
  clear hI hR
  unfold wtextF wpadF
  by_cases h0 : n = 0
  · rw [if_pos h0]
    have n0 : decide (0 < n) = false := decide_eq_false (by omega)
    have n0' : decide ((0 : Int) < (n : Int)) = false := decide_eq_false (by omega)
    go_enter Try.func31, Try.ntmps31
    go_wp2
    go_ret
    exact ⟨rfl, Fr.refl _ _⟩
  · rw [if_neg h0]
    have n0 : decide (0 < n) = true := decide_eq_true (by omega)
    have n0' : decide ((0 : Int) < (n : Int)) = true := decide_eq_true (by omega)
    have hz1 := strOfNums_size xs
    have hz2 := strOfNums_size [(h : Int)]
    rw [List.length_singleton] at hz2
    have hcv2 := run_convert_bytes_arg (P := Try.prog) (W.alloc (.cells #[.int .u8 (h : Int)] 5)) 43 5 Try.underlying43 Try.underlying5 W.heap.size 0 1 1 [(h : Int)] rfl (fun i hi => by
      obtain rfl : i = 0 := by omega
      exact (blk_cell (heap_alloc_new W _) 0).trans rfl) 9 Try.underlying9
    go_enter Try.func31, Try.ntmps31
    go_wp2
    go_ret
    rw [str_append]
    exact ⟨rfl, (Fr.refl _ _).alloc _⟩
end Go.Proofs.Ytpldapjcojjicaa.B
