/- Layer 1 (bits): the document's writer lays bits: its contract. -/
import Derived.Test.YtpldapjcojjicaaVr
namespace Go.Proofs.Ytpldapjcojjicaa.B
open Go.RowKit Go.Proofs.YtpldapjcojjicaaW.PrintWords Go.Proofs.YtpldapjcojjicaaW.PrintLast Go.Proofs.YtpldapjcojjicaaW.PrintMore
set_option linter.unusedVariables false
set_option linter.unusedSimpArgs false

theorem nn_mod (a n : Nat) (hn : n ≤ 7) : Int.tmod ((8 * a + n : Nat) : Int) 8 = (n : Int) := by
  rw [Int.tmod_eq_emod_of_nonneg (Int.natCast_nonneg _)]
  omega
theorem nn_div (a n : Nat) (hn : n ≤ 7) : Int.tdiv ((8 * a + n : Nat) : Int) 8 = (a : Int) := by
  rw [Int.tdiv_eq_ediv_of_nonneg (Int.natCast_nonneg _)]
  omega
theorem nn_b (a n : Nat) (ha : a ≤ 1000000000000 + 5) (hn : n ≤ 7) : 0 ≤ ((8 * a + n : Nat) : Int) ∧ ((8 * a + n : Nat) : Int) ≤ 8000000001000 := by omega
theorem small_w (a : Nat) (ha : a ≤ 1000000000000 + 5) : wrap64 (a : Int) = (a : Int) := w64' _ (by omega)
theorem min64 (i k : Nat) (h : i < k) (hk : k ≤ 24) : min i 64 = i := Nat.min_eq_left (by omega)
theorem min8 (n : Nat) (h : n ≤ 7) : min n 8 = n := Nat.min_eq_left (by omega)
theorem x_bit' (x : Int) (i k : Nat) (h : i < k) (hk : k ≤ 24) : Go.bits .and .i64 (x / 2 ^ i) 1 = (((x / 2 ^ i % 2).toNat : Nat) : Int) ∧ (x / 2 ^ i % 2).toNat < 2 := by
  have hxb := x_bit x i (by omega)
  have hxe : shr .i64 x (i : Int) = x / 2 ^ i := by
    unfold shr
    rw [Int.toNat_natCast, Nat.min_eq_left (show i ≤ IntKind.i64.bits from Nat.le_trans (Nat.le_of_lt (Nat.lt_of_lt_of_le h hk)) (by decide))]
  rw [hxe] at hxb
  exact hxb
theorem u8_or' (h b n : Nat) (hn : n ≤ 7) (hh : h < 2 ^ n) (hb : b < 2) : Go.bits .or .u8 (h : Int) (IntKind.u8.wrap (IntKind.u8.wrap (b : Int) * 2 ^ n)) = ((h + b * 2 ^ n : Nat) : Int) := by
  have hor := u8_or h b n hn hh hb
  have hor2 : shl .u8 (b : Int) (n : Int) = IntKind.u8.wrap (IntKind.u8.wrap (b : Int) * 2 ^ n) := by
    unfold shl
    rw [Int.toNat_natCast, Nat.min_eq_left (show n ≤ IntKind.u8.bits from Nat.le_trans hn (by decide)), u8_wrap (b : Int), Int.emod_eq_of_lt (by omega) (by omega)]
  rw [hor2] at hor
  exact hor
theorem one_lt (h b n : Nat) (hh : h < 2 ^ n) (hb : b < 2) : h + b * 2 ^ n < 2 ^ (n + 1) := by
  have hm : b * 2 ^ n ≤ 1 * 2 ^ n := Nat.mul_le_mul_right _ (by omega)
  rw [Nat.pow_succ]
  omega
theorem row_set (ys : List Int) (h x : Int) (J : Int) (hJ : (ys.length : Int) = J) : (ys ++ [h]).set J.toNat x = ys ++ [x] := by
  rw [← hJ, Int.toNat_natCast, List.set_append_right _ _ (Nat.le_refl _), Nat.sub_self]
  rfl

set_option maxHeartbeats 1000000 in
set_option maxRecDepth 100000 in
theorem vbits_yes (W : World) (B g : Nat) (v : Value) (ys : List Int) (h n k : Nat) (x : Int) (hI : IsV W g v ((8 * ys.length + n : Nat) : Int)) (hR : Row W B v (wpadF ys h n)) (hB : B ≤ W.heap.size) (hn : n ≤ 7) (hh : h < 2 ^ n) (hk : k ≤ 24) (hx : ys.length ≤ 1000000000000) :
    Calls Try.prog 30 #[.pointer (some ⟨g, 0, none⟩), .int .i64 x, .int .i64 (k : Int)] W fun e W' => e = .returned (.tuple #[]) ∧ ∃ v', VPost W W' B g v v' (wAt ys h n x k).1 (wAt ys h n x k).2.1 (wAt ys h n x k).2.2 := by
  have hI := Aside0.mk hI
  have hR := Aside0.mk hR
  have hh := Aside0.mk hh
  have k0 : decide ((k : Int) < 0) = false := decide_eq_false (by omega)
  have k24 : decide ((24 : Int) < (k : Int)) = false := decide_eq_false (by omega)
  have k24' : decide (24 < k) = false := decide_eq_false (by omega)
  go_enter Try.func30, Try.ntmps30
  go_wp2
  go_loopg [6] k (fun gh v6 wr => ∃ (i : Nat) (v1 : Value) (ys1 : List Int) (h1 n1 : Nat), v6 = .int .i64 (i : Int) ∧ i ≤ k ∧ k - i ≤ gh ∧ Aside0 (IsV wr g v1 ((8 * ys1.length + n1 : Nat) : Int)) ∧ Aside0 (Row wr B v1 (wpadF ys1 h1 n1)) ∧ Aside0 (wAt ys h n x i = (ys1, h1, n1)) ∧ n1 ≤ 7 ∧ Aside0 (h1 < 2 ^ n1) ∧ ys1.length ≤ ys.length + 5 ∧ Aside0 (Fr (fun b => b = g ∨ v.ownBlock = some b) W wr) ∧ Aside0 (v1.ownBlock = v.ownBlock ∨ ∃ b, v1.ownBlock = some b ∧ W.heap.size ≤ b))
  case atStart => exact ⟨0, v, ys, h, n, rfl, by omega, by omega, hI, hR, ⟨wAt_zero ys h n x hn⟩, hn, hh, by omega, ⟨Fr.refl _ _⟩, ⟨.inl rfl⟩⟩
  case round =>
    obtain ⟨i, v1, ys1, h1, n1, rfl, hik, hgh, HI, HR, HA, hn1, hh1, hl1, HF, HT⟩ := hrel
    by_cases hc : i < k
    · have hcb : decide ((i : Int) < (k : Int)) = true := decide_eq_true (by omega)
      have hcb' : decide (i < k) = true := decide_eq_true hc
      obtain ⟨NN, hNN⟩ : ∃ NN : Int, ((8 * ys1.length + n1 : Nat) : Int) = NN := ⟨_, rfl⟩
      have m8 : Int.tmod NN 8 = (n1 : Int) := by rw [← hNN]; exact nn_mod _ _ hn1
      have d8 := Aside0.mk (show Int.tdiv NN 8 = (ys1.length : Int) by rw [← hNN]; exact nn_div _ _ hn1)
      have hNw := Aside0.mk (show 0 ≤ NN ∧ NN ≤ 8000000001000 by rw [← hNN]; exact nn_b _ _ (Nat.le_trans hl1 (Nat.add_le_add_right hx 5)) hn1)
      rw [hNN] at HI
      have hNN := Aside0.mk hNN
      have c1 : wr.cell? ⟨g, 1, none⟩ = some (.int .i64 NN) := (blk_cell HI.out 1).trans rfl
      have f1 := blk_frozen HI.out 1
      go_upto_if 23 with (fail)
      go_cut [] (fun wc => ∃ (v2 : Value), Aside0 (IsV wc g v2 NN) ∧ Aside0 (Row wc B v2 (ys1 ++ [(h1 : Int)])) ∧ Aside0 (Fr (fun b => b = g ∨ v.ownBlock = some b) W wc) ∧ Aside0 (v2.ownBlock = v.ownBlock ∨ ∃ b, v2.ownBlock = some b ∧ W.heap.size ≤ b))
      case first =>
        by_cases h0 : n1 = 0
        · subst h0
          obtain rfl : h1 = 0 := by have := hh1.out; simpa using this
          rw [show wpadF ys1 0 0 = ys1 from if_pos rfl] at HR
          obtain ⟨A1, C1, rfl⟩ := own_slice HR.out
          have c0 : wr.cell? ⟨g, 0, none⟩ = some (.slice A1 ys1.length C1) := (blk_cell HI.out 0).trans rfl
          have f0 := blk_frozen HI.out 0
          have hB2 : B ≤ wr.heap.size := Nat.le_trans hB HF.out.size
          have hb0 : (((0 : Nat) : Int) == 0) = true := rfl
          have c0' : ∀ o : Obj, (wr.alloc o).cell? ⟨g, 0, none⟩ = some (.slice A1 ys1.length C1) := fun o => (blk_cell ((Below.heap_alloc _ _ _ (blk_lt HI.out)).trans HI.out) 0).trans rfl
          go_wp2_with (first | ((with_reducible refine gate_builtin (b := .append) (xs := #[.tmp 28, .tmp 29]) rfl ?_); (try (refine gate_guard (by rfl) ?_; dsimp only)); at_builtin; refine print_append (w0 := wr) B rfl (.tmp 28) (.tmp 29) 43 5 (.int .u8 0) 1 rfl Try.underlying43 info5 rfl (by decide) (.slice A1 ys1.length C1) (nums .u8 ys1) (.int .u8 0) rfl rfl rfl (by rw [nums_length]; exact HR.out) (Below.refl _ _) hB2 (by rw [nums_length]; omega) ?_; intro v2 w2 hO2 _ hg2 hat2; have hO3 : Row w2 B v2 (ys1 ++ [((0 : Nat) : Int)]) := (by unfold Row; rw [nums_append]; have := hO2; rw [List.length_append, nums_length] at this; rw [List.length_append]; exact this); clear hO2; obtain ⟨A2, C2, rfl⟩ := own_slice hO3; replace hO3 := Aside0.mk hO3; replace hg2 := Aside0.mk hg2; replace hat2 := Aside0.mk hat2; have hI2 : Aside0 (IsV w2 g (.slice A1 ys1.length C1) NN) := ⟨(hg2.out.block g (blk_lt HI.out) (vrow_ne HR.out HI.out)).trans HI.out⟩; have c2 : w2.cell? ⟨g, 0, none⟩ = some (.slice A1 ys1.length C1) := (blk_cell hI2.out 0).trans rfl; have f2 := blk_frozen hI2.out 0; clear c0 f0 c0'))
          go_meet
          case rel =>
            refine ⟨.slice A2 (ys1 ++ [((0 : Nat) : Int)]).length C2, ⟨?_⟩, ⟨own_setCell hO3.out (vrow_ne hO3.out hI2.out) _⟩, ⟨(HF.out.grown hg2.out (fun b hb hlt => ?_)).set_ _ _ (fun _ => .inl rfl)⟩, ⟨?_⟩⟩
            · have hz := blk_set (show w2.heap[g]? = some (.cells #[.slice A1 ys1.length C1, .int .i64 NN] 45 (0, 0)) from hI2.out) 0 (.slice A2 (ys1 ++ [((0 : Nat) : Int)]).length C2)
              rw [List.length_append, List.length_singleton] at hz ⊢
              exact hz
            · rcases HT.out with h5 | ⟨b', h5, h6⟩
              · exact .inr (h5.symm.trans hb)
              · rw [h5] at hb; cases hb; omega
            · rcases hat2.out with h5 | ⟨b, h5, h6⟩
              · rw [h5]; exact HT.out
              · exact .inr ⟨b, h5, Nat.le_trans HF.out.size h6⟩
        · have hb0 : (((n1 : Nat) : Int) == 0) = false := beq_eq_false_iff_ne.mpr (by omega)
          have hb1 : (n1 == 0) = false := beq_eq_false_iff_ne.mpr h0
          have hpad : wpadF ys1 h1 n1 = ys1 ++ [(h1 : Int)] := if_neg h0
          go_wp2
          go_meet
          case rel => exact ⟨v1, HI, ⟨by rw [← hpad]; exact HR.out⟩, HF, HT⟩
      case rest =>
        obtain ⟨v2, HI2, HO2, HF2, HT2⟩ := hcut
        clear HI HR HF HT c1 f1
        obtain ⟨xs6, hxs6⟩ : ∃ xs6, ys1 ++ [(h1 : Int)] = xs6 := ⟨_, rfl⟩
        rw [hxs6] at HO2
        obtain ⟨L6, hL6⟩ : ∃ L6, xs6.length = L6 := ⟨_, rfl⟩
        have hL : L6 = ys1.length + 1 := by rw [← hL6, ← hxs6]; simp
        obtain ⟨G, C6, rfl, hGb, hGl⟩ := HO2.out.form (by rw [hL6, hL]; exact Nat.succ_pos _)
        obtain ⟨J, hJ⟩ : ∃ J : Int, (ys1.length : Int) = J := ⟨_, rfl⟩
        have hJ0 : 0 ≤ J := by rw [← hJ]; exact Int.natCast_nonneg _
        have hJ1 : J < (L6 : Int) := by rw [← hJ, hL]; exact Int.ofNat_lt.2 (Nat.lt_succ_self _)
        have hrd : rd xs6 J = (h1 : Int) := by
          unfold rd
          rw [← hJ, Int.toNat_natCast, ← hxs6, List.getD_eq_getElem?_getD]
          simp
        have hc6 := (own_at HO2.out J hJ0 (by rw [hL6]; exact hJ1)).1
        have hf6 := (own_at HO2.out J hJ0 (by rw [hL6]; exact hJ1)).2
        rw [hrd] at hc6
        have c0 : wc.cell? ⟨g, 0, none⟩ = some (.slice (some ⟨G, 0, none⟩) L6 C6) := by have := (blk_cell HI2.out 0); rw [hL6] at this; exact this.trans rfl
        have c1 : wc.cell? ⟨g, 1, none⟩ = some (.int .i64 NN) := (blk_cell HI2.out 1).trans rfl
        have d8' : Int.tdiv NN 8 = J := by rw [d8.out, hJ]
        have wJ : wrap64 J = J := by rw [← hJ]; exact small_w _ (Nat.le_trans hl1 (Nat.add_le_add_right hx 5))
        have wJ' : IntKind.i64.wrap J = J := (i64_w J).trans wJ
        have wn : wrap64 (n1 : Int) = (n1 : Int) := small_w _ (Nat.le_trans hn1 (by decide))
        have wn' : IntKind.i64.wrap (n1 : Int) = (n1 : Int) := (i64_w _).trans wn
        have d8w : IntKind.i64.wrap (Int.tdiv NN 8) = J := by rw [d8']; exact wJ'
        clear wn wn'
        have hn1k := hn1
        obtain ⟨hxb, hb2⟩ := x_bit' x i k hc hk
        obtain ⟨b, hb⟩ : ∃ b : Nat, (x / 2 ^ i % 2).toNat = b := ⟨_, rfl⟩
        rw [hb] at hxb hb2
        have hb := Aside0.mk hb
        have hor := Aside0.mk (u8_or' h1 b n1 hn1 hh1.out hb2)
        have mi := min64 i k hc hk
        have m8n := min8 n1 hn1
        have hJ0' := eq_true hJ0
        have hJ1' := eq_true hJ1
        have hset := Aside0.mk (row_set ys1 (h1 : Int) ((h1 + b * 2 ^ n1 : Nat) : Int) J hJ)
        rw [hxs6] at hset
        obtain ⟨⟨ys2, h2, n2⟩, hs⟩ : ∃ s, wflush ys1 (h1 + b * 2 ^ n1) (n1 + 1) = s := ⟨_, rfl⟩
        have hok := wflush_ok (n1 + 1) (n1 + 1) ys1 (h1 + b * 2 ^ n1) (Nat.le_refl _) (one_lt h1 b n1 hh1.out hb2)
        have hpn := pad_next ys1 h1 n1 b hn1 hh1.out hb2
        have hAn := wAt_next ys h n x i hh.out
        have hAk := (wAt_ok ys h n x (i + 1) hh.out).2.2
        rw [HA.out] at hAn
        simp only [] at hAn
        rw [hb.out, hs] at hAn
        rw [hs] at hok hpn
        rw [← hAn] at hAk
        have hok := Aside0.mk hok
        have hpn := Aside0.mk hpn
        have hAn := Aside0.mk hAn
        have hAk := Aside0.mk hAk
        have hs := Aside0.mk hs
        have hgh := Aside0.mk hgh
        have hl1 := Aside0.mk hl1
        have hb2 := Aside0.mk hb2
        have hn1 := Aside0.mk hn1
        have hik := Aside0.mk hik
        have hx := Aside0.mk hx
        have hc := Aside0.mk hc
        have hk := Aside0.mk hk
        have hB := Aside0.mk hB
        have hn := Aside0.mk hn
        have hne := Aside0.mk (vrow_ne HO2.out HI2.out)
        clear hJ hL hxs6 hGb hGl hJ0 hJ1 hrd
        go_wp2
        refine start_ (n := 34) (S := fun w' => w'.cell? ⟨g, 0, none⟩ = some (.slice (some ⟨G, 0, none⟩) L6 C6) ∧ w'.cell? ⟨g, 1, none⟩ = some (.int .i64 NN) ∧ w'.cell? ⟨G, J.toNat, none⟩ = some (.int .u8 (h1 : Int))) (ds := [33]) #[false, false, false, false, false, false, false, false, false, false, false, false, false, false, false, false, false, false, false, false, false, false, false, false, false, false, false, false, false, false, false, false, false, false] (by kernel_rfl) rfl rfl ⟨c0, c1, hc6⟩ (fun hHeld => ?_)
        refine pure_ (i := 0) (N := some 33) (v := ?_) (a' := ?_) #[true, false, false, false, false, false, false, false, false, false, false, false, false, false, false, false, false, false, false, false, false, false, false, false, false, false, false, false, false, false, false, false, false, false] rfl rfl (by kernel_rfl) (fun _ _ _ h => h) (Or.inl ⟨by rfl, ?_⟩) ?_ ?_
        rotate_left
        · intro w'
          go_simp
          with_reducible rfl
        rotate_left
        · simp only [Act.put, List.setIfInBounds_toArray, List.set_cons_zero, List.set_cons_succ, i64_w, i32_w]
          rfl
        refine pure_ (i := 1) (N := some 34) (v := ?_) (a' := ?_) #[true, true, false, false, false, false, false, false, false, false, false, false, false, false, false, false, false, false, false, false, false, false, false, false, false, false, false, false, false, false, false, false, false, false] rfl rfl (by kernel_rfl) (fun _ _ _ h => h) (Or.inl ⟨by rfl, ?_⟩) ?_ ?_
        rotate_left
        · intro w'
          go_simp
          with_reducible rfl
        rotate_left
        · simp only [Act.put, List.setIfInBounds_toArray, List.set_cons_zero, List.set_cons_succ, i64_w, i32_w]
          rfl
        refine pure_ (i := 2) (N := some 35) (v := ?_) (a' := ?_) #[true, true, true, false, false, false, false, false, false, false, false, false, false, false, false, false, false, false, false, false, false, false, false, false, false, false, false, false, false, false, false, false, false, false] rfl rfl (by kernel_rfl) (fun _ _ _ h => h) (Or.inl ⟨by rfl, ?_⟩) ?_ ?_
        rotate_left
        · intro w'
          go_simp
          with_reducible rfl
        rotate_left
        · simp only [Act.put, List.setIfInBounds_toArray, List.set_cons_zero, List.set_cons_succ, i64_w, i32_w]
          rfl
        refine pure_ (i := 4) (N := some 37) (v := ?_) (a' := ?_) #[true, true, true, false, true, false, false, false, false, false, false, false, false, false, false, false, false, false, false, false, false, false, false, false, false, false, false, false, false, false, false, false, false, false] rfl rfl (by kernel_rfl) (fun _ _ _ h => h) (Or.inl ⟨by rfl, ?_⟩) ?_ ?_
        rotate_left
        · intro w'
          go_simp
          with_reducible rfl
        rotate_left
        · simp only [Act.put, List.setIfInBounds_toArray, List.set_cons_zero, List.set_cons_succ, i64_w, i32_w]
          rfl
        refine pure_ (i := 5) (N := some 38) (v := ?_) (a' := ?_) #[true, true, true, false, true, true, false, false, false, false, false, false, false, false, false, false, false, false, false, false, false, false, false, false, false, false, false, false, false, false, false, false, false, false] rfl rfl (by kernel_rfl) (fun _ _ _ h => h) (Or.inl ⟨by rfl, ?_⟩) ?_ ?_
        rotate_left
        · intro w'
          go_simp
          with_reducible rfl
        rotate_left
        · simp only [Act.put, List.setIfInBounds_toArray, List.set_cons_zero, List.set_cons_succ, i64_w, i32_w]
          rfl
        refine pure_ (i := 6) (N := some 39) (v := ?_) (a' := ?_) #[true, true, true, false, true, true, true, false, false, false, false, false, false, false, false, false, false, false, false, false, false, false, false, false, false, false, false, false, false, false, false, false, false, false] rfl rfl (by kernel_rfl) (fun _ _ _ h => h) (Or.inl ⟨by rfl, ?_⟩) ?_ ?_
        rotate_left
        · intro w'
          go_simp
          with_reducible rfl
        rotate_left
        · simp only [Act.put, List.setIfInBounds_toArray, List.set_cons_zero, List.set_cons_succ, i64_w, i32_w]
          rfl
        refine pure_ (i := 9) (N := some 42) (v := ?_) (a' := ?_) #[true, true, true, false, true, true, true, false, false, true, false, false, false, false, false, false, false, false, false, false, false, false, false, false, false, false, false, false, false, false, false, false, false, false] rfl rfl (by kernel_rfl) (fun _ _ _ h => h) (Or.inl ⟨by rfl, ?_⟩) ?_ ?_
        rotate_left
        · intro w'
          go_simp
          with_reducible rfl
        rotate_left
        · simp only [Act.put, List.setIfInBounds_toArray, List.set_cons_zero, List.set_cons_succ, i64_w, i32_w]
          rfl
        refine pure_ (i := 10) (N := some 43) (v := ?_) (a' := ?_) #[true, true, true, false, true, true, true, false, false, true, true, false, false, false, false, false, false, false, false, false, false, false, false, false, false, false, false, false, false, false, false, false, false, false] rfl rfl (by kernel_rfl) (fun _ _ _ h => h) (Or.inl ⟨by rfl, ?_⟩) ?_ ?_
        rotate_left
        · intro w'
          go_simp
          with_reducible rfl
        rotate_left
        · simp only [Act.put, List.setIfInBounds_toArray, List.set_cons_zero, List.set_cons_succ, i64_w, i32_w]
          rfl
        refine pure_ (i := 11) (N := some 44) (v := ?_) (a' := ?_) #[true, true, true, false, true, true, true, false, false, true, true, true, false, false, false, false, false, false, false, false, false, false, false, false, false, false, false, false, false, false, false, false, false, false] rfl rfl (by kernel_rfl) (fun _ _ _ h => h) (Or.inl ⟨by rfl, ?_⟩) ?_ ?_
        rotate_left
        · intro w'
          go_simp
          with_reducible rfl
        rotate_left
        · simp only [Act.put, List.setIfInBounds_toArray, List.set_cons_zero, List.set_cons_succ, i64_w, i32_w]
          rfl
        refine pure_ (i := 13) (N := some 46) (v := ?_) (a' := ?_) #[true, true, true, false, true, true, true, false, false, true, true, true, false, true, false, false, false, false, false, false, false, false, false, false, false, false, false, false, false, false, false, false, false, false] rfl rfl (by kernel_rfl) (fun _ _ _ h => h) (Or.inl ⟨by rfl, ?_⟩) ?_ ?_
        rotate_left
        · intro w'
          go_simp
          with_reducible rfl
        rotate_left
        · simp only [Act.put, List.setIfInBounds_toArray, List.set_cons_zero, List.set_cons_succ, i64_w, i32_w]
          rfl
        refine pure_ (i := 14) (N := some 47) (v := ?_) (a' := ?_) #[true, true, true, false, true, true, true, false, false, true, true, true, false, true, true, false, false, false, false, false, false, false, false, false, false, false, false, false, false, false, false, false, false, false] rfl rfl (by kernel_rfl) (fun _ _ _ h => h) (Or.inl ⟨by rfl, ?_⟩) ?_ ?_
        rotate_left
        · intro w'
          go_simp
          with_reducible rfl
        rotate_left
        · simp only [Act.put, List.setIfInBounds_toArray, List.set_cons_zero, List.set_cons_succ, i64_w, i32_w]
          rfl
        refine pure_ (i := 15) (N := some 48) (v := ?_) (a' := ?_) #[true, true, true, false, true, true, true, false, false, true, true, true, false, true, true, true, false, false, false, false, false, false, false, false, false, false, false, false, false, false, false, false, false, false] rfl rfl (by kernel_rfl) (fun _ _ _ h => h) (Or.inl ⟨by rfl, ?_⟩) ?_ ?_
        rotate_left
        · intro w'
          go_simp
          with_reducible rfl
        rotate_left
        · simp only [Act.put, List.setIfInBounds_toArray, List.set_cons_zero, List.set_cons_succ, i64_w, i32_w]
          rfl
        refine pure_ (i := 20) (N := some 53) (v := ?_) (a' := ?_) #[true, true, true, false, true, true, true, false, false, true, true, true, false, true, true, true, false, false, false, false, true, false, false, false, false, false, false, false, false, false, false, false, false, false] rfl rfl (by kernel_rfl) (fun _ _ _ h => h) (Or.inl ⟨by rfl, ?_⟩) ?_ ?_
        rotate_left
        · intro w'
          go_simp
          with_reducible rfl
        rotate_left
        · simp only [Act.put, List.setIfInBounds_toArray, List.set_cons_zero, List.set_cons_succ, i64_w, i32_w]
          rfl
        refine pure_ (i := 21) (N := some 54) (v := ?_) (a' := ?_) #[true, true, true, false, true, true, true, false, false, true, true, true, false, true, true, true, false, false, false, false, true, true, false, false, false, false, false, false, false, false, false, false, false, false] rfl rfl (by kernel_rfl) (fun _ _ _ h => h) (Or.inl ⟨by rfl, ?_⟩) ?_ ?_
        rotate_left
        · intro w'
          go_simp
          with_reducible rfl
        rotate_left
        · simp only [Act.put, List.setIfInBounds_toArray, List.set_cons_zero, List.set_cons_succ, i64_w, i32_w]
          rfl
        refine pure_ (i := 22) (N := some 55) (v := ?_) (a' := ?_) #[true, true, true, false, true, true, true, false, false, true, true, true, false, true, true, true, false, false, false, false, true, true, true, false, false, false, false, false, false, false, false, false, false, false] rfl rfl (by kernel_rfl) (fun _ _ _ h => h) (Or.inl ⟨by rfl, ?_⟩) ?_ ?_
        rotate_left
        · intro w'
          go_simp
          with_reducible rfl
        rotate_left
        · simp only [Act.put, List.setIfInBounds_toArray, List.set_cons_zero, List.set_cons_succ, i64_w, i32_w]
          rfl
        refine pure_ (i := 23) (N := some 56) (v := ?_) (a' := ?_) #[true, true, true, false, true, true, true, false, false, true, true, true, false, true, true, true, false, false, false, false, true, true, true, true, false, false, false, false, false, false, false, false, false, false] rfl rfl (by kernel_rfl) (fun _ _ _ h => h) (Or.inl ⟨by rfl, ?_⟩) ?_ ?_
        rotate_left
        · intro w'
          go_simp
          with_reducible rfl
        rotate_left
        · simp only [Act.put, List.setIfInBounds_toArray, List.set_cons_zero, List.set_cons_succ, i64_w, i32_w]
          rfl
        refine pure_ (i := 24) (N := some 57) (v := ?_) (a' := ?_) #[true, true, true, false, true, true, true, false, false, true, true, true, false, true, true, true, false, false, false, false, true, true, true, true, true, false, false, false, false, false, false, false, false, false] rfl rfl (by kernel_rfl) (fun _ _ _ h => h) (Or.inl ⟨by rfl, ?_⟩) ?_ ?_
        rotate_left
        · intro w'
          go_simp
          with_reducible rfl
        rotate_left
        · simp only [Act.put, List.setIfInBounds_toArray, List.set_cons_zero, List.set_cons_succ, i64_w, i32_w]
          rfl
        refine pure_ (i := 25) (N := some 58) (v := ?_) (a' := ?_) #[true, true, true, false, true, true, true, false, false, true, true, true, false, true, true, true, false, false, false, false, true, true, true, true, true, true, false, false, false, false, false, false, false, false] rfl rfl (by kernel_rfl) (fun _ _ _ h => h) (Or.inl ⟨by rfl, ?_⟩) ?_ ?_
        rotate_left
        · intro w'
          go_simp
          with_reducible rfl
        rotate_left
        · simp only [Act.put, List.setIfInBounds_toArray, List.set_cons_zero, List.set_cons_succ, i64_w, i32_w]
          rfl
        refine pure_ (i := 26) (N := some 59) (v := ?_) (a' := ?_) #[true, true, true, false, true, true, true, false, false, true, true, true, false, true, true, true, false, false, false, false, true, true, true, true, true, true, true, false, false, false, false, false, false, false] rfl rfl (by kernel_rfl) (fun _ _ _ h => h) (Or.inl ⟨by rfl, ?_⟩) ?_ ?_
        rotate_left
        · intro w'
          go_simp
          with_reducible rfl
        rotate_left
        · simp only [Act.put, List.setIfInBounds_toArray, List.set_cons_zero, List.set_cons_succ, i64_w, i32_w]
          rfl
        refine pure_ (i := 27) (N := some 60) (v := ?_) (a' := ?_) #[true, true, true, false, true, true, true, false, false, true, true, true, false, true, true, true, false, false, false, false, true, true, true, true, true, true, true, true, false, false, false, false, false, false] rfl rfl (by kernel_rfl) (fun _ _ _ h => h) (Or.inl ⟨by rfl, ?_⟩) ?_ ?_
        rotate_left
        · intro w'
          go_simp
          with_reducible rfl
        rotate_left
        · simp only [Act.put, List.setIfInBounds_toArray, List.set_cons_zero, List.set_cons_succ, i64_w, i32_w]
          rfl
        refine take_ (i := 3) (N := some 36) (v := ?_) (a' := ?_) #[true, true, true, true, true, true, true, false, false, true, true, true, false, true, true, true, false, false, false, false, true, true, true, true, true, true, true, true, false, false, false, false, false, false] rfl rfl (by kernel_rfl) (fun _ _ _ h => h) (Or.inl ⟨by rfl, ?_⟩) hHeld ?_ ?_
        rotate_left
        · rintro w' ⟨s0, s1, s2⟩
          go_simp
          with_reducible rfl
        rotate_left
        · simp only [Act.put, List.setIfInBounds_toArray, List.set_cons_zero, List.set_cons_succ, i64_w, i32_w]
          rfl
        refine take_ (i := 7) (N := some 40) (v := ?_) (a' := ?_) #[true, true, true, true, true, true, true, true, false, true, true, true, false, true, true, true, false, false, false, false, true, true, true, true, true, true, true, true, false, false, false, false, false, false] rfl rfl (by kernel_rfl) (fun _ _ _ h => h) (Or.inl ⟨by rfl, ?_⟩) hHeld ?_ ?_
        rotate_left
        · rintro w' ⟨s0, s1, s2⟩
          go_simp
          with_reducible rfl
        rotate_left
        · simp only [Act.put, List.setIfInBounds_toArray, List.set_cons_zero, List.set_cons_succ, i64_w, i32_w]
          rfl
        refine pure_ (i := 8) (N := some 41) (v := ?_) (a' := ?_) #[true, true, true, true, true, true, true, true, true, true, true, true, false, true, true, true, false, false, false, false, true, true, true, true, true, true, true, true, false, false, false, false, false, false] rfl rfl (by kernel_rfl) (fun _ _ _ h => h) (Or.inl ⟨by rfl, ?_⟩) ?_ ?_
        rotate_left
        · intro w'
          go_simp
          with_reducible rfl
        rotate_left
        · simp only [Act.put, List.setIfInBounds_toArray, List.set_cons_zero, List.set_cons_succ, i64_w, i32_w]
          rfl
        refine take_ (i := 12) (N := some 45) (v := ?_) (a' := ?_) #[true, true, true, true, true, true, true, true, true, true, true, true, true, true, true, true, false, false, false, false, true, true, true, true, true, true, true, true, false, false, false, false, false, false] rfl rfl (by kernel_rfl) (fun _ _ _ h => h) (Or.inl ⟨by rfl, ?_⟩) hHeld ?_ ?_
        rotate_left
        · rintro w' ⟨s0, s1, s2⟩
          go_simp
          with_reducible rfl
        rotate_left
        · simp only [Act.put, List.setIfInBounds_toArray, List.set_cons_zero, List.set_cons_succ, i64_w, i32_w]
          rfl
        refine take_ (i := 16) (N := some 49) (v := ?_) (a' := ?_) #[true, true, true, true, true, true, true, true, true, true, true, true, true, true, true, true, true, false, false, false, true, true, true, true, true, true, true, true, false, false, false, false, false, false] rfl rfl (by kernel_rfl) (fun _ _ _ h => h) (Or.inl ⟨by rfl, ?_⟩) hHeld ?_ ?_
        rotate_left
        · rintro w' ⟨s0, s1, s2⟩
          go_simp
          with_reducible rfl
        rotate_left
        · simp only [Act.put, List.setIfInBounds_toArray, List.set_cons_zero, List.set_cons_succ, i64_w, i32_w]
          rfl
        refine pure_ (i := 17) (N := some 50) (v := ?_) (a' := ?_) #[true, true, true, true, true, true, true, true, true, true, true, true, true, true, true, true, true, true, false, false, true, true, true, true, true, true, true, true, false, false, false, false, false, false] rfl rfl (by kernel_rfl) (fun _ _ _ h => h) (Or.inl ⟨by rfl, ?_⟩) ?_ ?_
        rotate_left
        · intro w'
          go_simp
          with_reducible rfl
        rotate_left
        · simp only [Act.put, List.setIfInBounds_toArray, List.set_cons_zero, List.set_cons_succ, i64_w, i32_w]
          rfl
        refine pure_ (i := 18) (N := some 51) (v := ?_) (a' := ?_) #[true, true, true, true, true, true, true, true, true, true, true, true, true, true, true, true, true, true, true, false, true, true, true, true, true, true, true, true, false, false, false, false, false, false] rfl rfl (by kernel_rfl) (fun _ _ _ h => h) (Or.inl ⟨by rfl, ?_⟩) ?_ ?_
        rotate_left
        · intro w'
          go_simp
          with_reducible rfl
        rotate_left
        · simp only [Act.put, List.setIfInBounds_toArray, List.set_cons_zero, List.set_cons_succ, i64_w, i32_w]
          rfl
        refine take_ (i := 19) (N := some 52) (v := ?_) (a' := ?_) #[true, true, true, true, true, true, true, true, true, true, true, true, true, true, true, true, true, true, true, true, true, true, true, true, true, true, true, true, false, false, false, false, false, false] rfl rfl (by kernel_rfl) (fun _ _ _ h => h) (Or.inl ⟨by rfl, ?_⟩) hHeld ?_ ?_
        rotate_left
        · rintro w' ⟨s0, s1, s2⟩
          go_simp
          with_reducible rfl
        rotate_left
        · simp only [Act.put, List.setIfInBounds_toArray, List.set_cons_zero, List.set_cons_succ, i64_w, i32_w]
          rfl
        refine take_ (i := 28) (N := some 61) (v := ?_) (a' := ?_) #[true, true, true, true, true, true, true, true, true, true, true, true, true, true, true, true, true, true, true, true, true, true, true, true, true, true, true, true, true, false, false, false, false, false] rfl rfl (by kernel_rfl) (fun _ _ _ h => h) (Or.inl ⟨by rfl, ?_⟩) hHeld ?_ ?_
        rotate_left
        · rintro w' ⟨s0, s1, s2⟩
          go_simp
          with_reducible rfl
        rotate_left
        · simp only [Act.put, List.setIfInBounds_toArray, List.set_cons_zero, List.set_cons_succ, i64_w, i32_w]
          rfl
        refine pure_ (i := 29) (N := some 62) (v := ?_) (a' := ?_) #[true, true, true, true, true, true, true, true, true, true, true, true, true, true, true, true, true, true, true, true, true, true, true, true, true, true, true, true, true, true, false, false, false, false] rfl rfl (by kernel_rfl) (fun _ _ _ h => h) (Or.inl ⟨by rfl, ?_⟩) ?_ ?_
        rotate_left
        · intro w'
          go_simp
          with_reducible rfl
        rotate_left
        · simp only [Act.put, List.setIfInBounds_toArray, List.set_cons_zero, List.set_cons_succ, i64_w, i32_w]
          rfl
        refine pure_ (i := 30) (N := some 63) (v := ?_) (a' := ?_) #[true, true, true, true, true, true, true, true, true, true, true, true, true, true, true, true, true, true, true, true, true, true, true, true, true, true, true, true, true, true, true, false, false, false] rfl rfl (by kernel_rfl) (fun _ _ _ h => h) (Or.inl ⟨by rfl, ?_⟩) ?_ ?_
        rotate_left
        · intro w'
          go_simp
          with_reducible rfl
        rotate_left
        · simp only [Act.put, List.setIfInBounds_toArray, List.set_cons_zero, List.set_cons_succ, i64_w, i32_w]
          rfl
        refine pure_ (i := 31) (N := some 64) (v := ?_) (a' := ?_) #[true, true, true, true, true, true, true, true, true, true, true, true, true, true, true, true, true, true, true, true, true, true, true, true, true, true, true, true, true, true, true, true, false, false] rfl rfl (by kernel_rfl) (fun _ _ _ h => h) (Or.inl ⟨by rfl, ?_⟩) ?_ ?_
        rotate_left
        · intro w'
          go_simp
          with_reducible rfl
        rotate_left
        · simp only [Act.put, List.setIfInBounds_toArray, List.set_cons_zero, List.set_cons_succ, i64_w, i32_w]
          rfl
        refine pure_ (i := 32) (N := some 65) (v := ?_) (a' := ?_) #[true, true, true, true, true, true, true, true, true, true, true, true, true, true, true, true, true, true, true, true, true, true, true, true, true, true, true, true, true, true, true, true, true, false] rfl rfl (by kernel_rfl) (fun _ _ _ h => h) (Or.inl ⟨by rfl, ?_⟩) ?_ ?_
        rotate_left
        · intro w'
          go_simp
          with_reducible rfl
        rotate_left
        · simp only [Act.put, List.setIfInBounds_toArray, List.set_cons_zero, List.set_cons_succ, i64_w, i32_w]
          rfl
        refine last_ (i := 33) (N := none) #[true, true, true, true, true, true, true, true, true, true, true, true, true, true, true, true, true, true, true, true, true, true, true, true, true, true, true, true, true, true, true, true, true, true] rfl rfl (by kernel_rfl) (by decide) (fun K hK => ?_)
        refine skip_ (w1 := ?_) (by rfl) rfl ?_ ?_
        rotate_left
        · go_simp
          rfl
        refine hK.out _ _ ?_
        clear hK K
        refine done_ (by kernel_rfl) ?_
        rw [hor.out]
        clear hHeld
        have hgG : g ≠ G := fun e => hne.out (by rw [e]; rfl)
        have HI7 : Aside0 (IsV (wc.setCell ⟨G, J.toNat, none⟩ (.int .u8 ((h1 + b * 2 ^ n1 : Nat) : Int))).drew g (.slice (some ⟨G, 0, none⟩) xs6.length C6) NN) := ⟨(Below.heap_setCell wc ⟨G, J.toNat, none⟩ (.int .u8 ((h1 + b * 2 ^ n1 : Nat) : Int)) g hgG).trans HI2.out⟩
        have HO7 : Aside0 (Row (wc.setCell ⟨G, J.toNat, none⟩ (.int .u8 ((h1 + b * 2 ^ n1 : Nat) : Int))).drew B (.slice (some ⟨G, 0, none⟩) xs6.length C6) (ys1 ++ [((h1 + b * 2 ^ n1 : Nat) : Int)])) := ⟨by
          have := own_put HO2.out J ((h1 + b * 2 ^ n1 : Nat) : Int)
          rw [hset.out] at this
          exact this⟩
        have HF7 : Aside0 (Fr (fun b => b = g ∨ v.ownBlock = some b) W (wc.setCell ⟨G, J.toNat, none⟩ (.int .u8 ((h1 + b * 2 ^ n1 : Nat) : Int))).drew) := ⟨(HF2.out.set_ _ _ (fun hlt => by
          rcases HT2.out with h5 | ⟨b', h5, h6⟩
          · exact .inr h5.symm
          · cases h5; exact absurd hlt (Nat.not_lt.2 h6))).drew⟩
        obtain ⟨W7, hW7⟩ : ∃ W7, (wc.setCell ⟨G, J.toNat, none⟩ (.int .u8 ((h1 + b * 2 ^ n1 : Nat) : Int))).drew = W7 := ⟨_, rfl⟩
        rw [hW7] at HI7 HO7 HF7 ⊢
        clear hW7 c0 c1 hc6 hf6 HI2 HO2 HF2 d8' d8w m8 wJ wJ' hJ0' hJ1' mi m8n hxb
        have c1 : W7.cell? ⟨g, 1, none⟩ = some (.int .i64 NN) := (blk_cell HI7.out 1).trans rfl
        have f1 := blk_frozen HI7.out 1
        obtain ⟨wN0, wN1⟩ := hNw.out
        have hc1 : i ≤ 24 := Nat.le_of_lt (Nat.lt_of_lt_of_le hc.out hk.out)
        go_wp2
        go_roundg (k - (i + 1))
        case measure => have := hc.out; have := hgh.out; omega
        case rel =>
          have hn1' := hn1.out
          have hn' := hn.out
          have hc' := hc.out
          have hk' := hk.out
          have hAk' := hAk.out
          have hok' := hok.out
          have hNN' := hNN.out
          refine ⟨i + 1, .slice (some ⟨G, 0, none⟩) xs6.length C6, ys2, h2, n2, by go_num, by omega, Nat.le_refl _, ⟨?_⟩, ⟨?_⟩, ⟨hAn.out.symm⟩, hok'.2.1, ⟨hok'.1⟩, by clear hNN'; omega, ⟨HF7.out.set_ _ _ (fun _ => .inl rfl)⟩, HT2⟩
          · have hz := blk_set (show W7.heap[g]? = some (.cells #[.slice (some ⟨G, 0, none⟩) xs6.length C6, .int .i64 NN] 45 (0, 0)) from HI7.out) 1 (.int .i64 (NN + 1))
            have e : ((8 * ys2.length + n2 : Nat) : Int) = NN + 1 := by rw [← hNN']; omega
            rw [e]
            exact hz
          · rw [hpn.out]
            exact own_setCell HO7.out (vrow_ne HO7.out HI7.out) _
    · have hcb : decide ((i : Int) < (k : Int)) = false := decide_eq_false (by omega)
      have hcb' : decide (i < k) = false := decide_eq_false hc
      obtain rfl : i = k := by omega
      go_wp2
      go_end0
      rw [HA.out]
      exact ⟨rfl, v1, HI.out, HR.out, HF.out, HT.out⟩
end Go.Proofs.Ytpldapjcojjicaa.B
