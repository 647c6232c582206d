/- BitsTold: the walk: a byte that is changed is told by the cyclic sum. -/
import Derived.Test.YtpldapjcojjicaaCr
import Derived.Test.YtpldapjcojjicaaAw
import Derived.Lib.ConvBytes
namespace Go.Proofs.Ytpldapjcojjicaa.B
open Go.RowKit Go.Lib Go.Proofs.YtpldapjcojjicaaW.PrintWords Go.Proofs.YtpldapjcojjicaaW.PrintLast Go.Proofs.Ytpldapjcojjicaa.Pb
set_option linter.unusedVariables false
set_option linter.unusedSimpArgs false

theorem told_at (a : Int) (s : Nat) (hs : 0 < s) (hs2 : s ≤ 140737488351232) : ∃ j : Nat, j < s ∧ Int.tmod (Int.tmod a (s : Int) + (s : Int)) (s : Int) = (j : Int) ∧ wrap64 (Int.tmod a (s : Int)) = Int.tmod a (s : Int) ∧ wrap64 (Int.tmod a (s : Int) + (s : Int)) = Int.tmod a (s : Int) + (s : Int) ∧ wrap64 (j : Int) = (j : Int) := by
  have h1 : Int.tmod a (s : Int) < (s : Int) := Int.tmod_lt_of_pos _ (by omega)
  have h2 : -(s : Int) < Int.tmod a (s : Int) := by
    have := Int.lt_tmod_of_pos a (b := (s : Int)) (by omega)
    exact this
  generalize Int.tmod a (s : Int) = t at *
  have h3 : Int.tmod (t + (s : Int)) (s : Int) = (t + (s : Int)) % (s : Int) := Int.tmod_eq_emod_of_nonneg (by omega)
  have h4 : 0 ≤ (t + (s : Int)) % (s : Int) := Int.emod_nonneg _ (by omega)
  have h5 : (t + (s : Int)) % (s : Int) < (s : Int) := Int.emod_lt_of_pos _ (by omega)
  refine ⟨((t + (s : Int)) % (s : Int)).toNat, by omega, by rw [h3]; omega, w64' _ (by omega), w64' _ (by omega), w64' _ (by omega)⟩

set_option maxHeartbeats 2000000 in
set_option maxRecDepth 100000 in
theorem btold_calls (W : World) (S : ByteArray) (a : Int) (b : Nat) (hS : S.size ≤ 140737488351232) (hb : b < 256) :
    Calls Try.prog 7 #[.string S, .int .i64 a, .int .u8 (b : Int)] W fun e W' => e = .returned (.bool true) ∧ Below W.heap.size W W' := by
  have hAw : ∀ w, Calls Try.prog 17 #[] w fun e w' => e = .returned (.bool true) ∧ Below w.heap.size w w' := fun w => vitrinelaw01_awake.calls true w rfl
  by_cases h0 : S.size = 0
  · have z0 : ((S.size : Int) == 0) = true := beq_iff_eq.mpr (by omega)
    have z1 : (S.size == 0) = true := beq_iff_eq.mpr h0
    go_enter Try.func7, Try.ntmps7
    go_wp2_with (go_at_call 17; refine (hAw _).mono ?_; rintro e w6 ⟨rfl, hbel⟩)
    go_ret
    exact ⟨rfl, hbel⟩
  · have z0 : ((S.size : Int) == 0) = false := beq_eq_false_iff_ne.mpr (by omega)
    have z1 : (S.size == 0) = false := beq_eq_false_iff_ne.mpr h0
    by_cases hb0 : b = 0
    · have y0 : ((b : Int) == 0) = true := beq_iff_eq.mpr (by omega)
      have y1 : (b == 0) = true := beq_iff_eq.mpr hb0
      go_enter Try.func7, Try.ntmps7
      go_wp2_with (go_at_call 17; refine (hAw _).mono ?_; rintro e w6 ⟨rfl, hbel⟩)
      go_ret
      exact ⟨rfl, hbel⟩
    · have y0 : ((b : Int) == 0) = false := beq_eq_false_iff_ne.mpr (by omega)
      have y1 : (b == 0) = false := beq_eq_false_iff_ne.mpr hb0
      obtain ⟨j, j1, j2, j3, j4, j5⟩ := told_at a S.size (by omega) hS
      have hl : j < (byt S).length := by rw [byt_length]; exact j1
      obtain ⟨x, hx⟩ : ∃ x, (byt S)[j] = x := ⟨_, rfl⟩
      have hxl : x < 256 := by rw [← hx]; exact byt_lt S _ (List.getElem_mem _)
      have hv : x ^^^ b < 256 := Nat.xor_lt_two_pow (n := 8) hxl hb
      have hne : x ^^^ b ≠ x := fun e => hb0 (by
        have h2 : x ^^^ b = x ^^^ 0 := by rw [Nat.xor_zero]; exact e
        exact xor_inj' h2)
      have hcv := Go.Lib.run_convert_string_bytes (P := Try.prog) W 9 43 5 S Try.underlying9 Try.underlying43 Try.underlying5
      obtain ⟨W1, hW1⟩ : ∃ W1, bytesWorld W 5 S = W1 := ⟨_, rfl⟩
      obtain ⟨cap, hcap⟩ : ∃ cap, grownCap W S.size 0 5 = cap := ⟨_, rfl⟩
      have hcell : ∀ i, i < S.size → W1.cell? ⟨W.heap.size, i, none⟩ = some (.int .u8 ((bytesOf S).getD i 0)) := fun i hi => by
        rw [← hW1, bytesWorld_cell W 5 S i hi]
        congr 2
        unfold bytesOf
        rw [List.getD_eq_getElem?_getD, List.getD_eq_getElem?_getD, List.getElem?_map]
        have : i < S.data.toList.length := by rw [Array.length_toList]; exact hi
        rw [List.getElem?_eq_getElem this]
        rfl
      have hfrz : W1.frozen? ⟨W.heap.size, j, none⟩ = false := by
        rw [← hW1]
        unfold World.frozen?
        rw [bytesWorld_at_new]
        have : S.size ≤ (bytesCells W 5 S).size := by
          unfold bytesCells
          rw [Array.size_append, Array.size_map]
          exact Nat.le_add_right _ _
        show (decide ((bytesCells W 5 S).size ≤ j) && decide (j < (bytesCells W 5 S).size + 1)) = false
        rw [decide_eq_false (by omega)]
        rfl
      have hold : ∀ k, k < W.heap.size → W1.heap[k]? = W.heap[k]? := fun k hk => by rw [← hW1]; exact bytesWorld_at_old W 5 S k hk
      have hsz : W1.heap.size = W.heap.size + 1 := by rw [← hW1]; exact bytesWorld_size W 5 S
      have hos : W1.os = W.os ∧ W1.tape = W.tape ∧ W1.output = W.output := by rw [← hW1]; exact ⟨rfl, rfl, rfl⟩
      have hbl1 : Below W.heap.size W W1 := ⟨hos.1, hos.2.1, hos.2.2, by omega, hold⟩
      rw [hcap, hW1] at hcv
      have hcj : W1.cell? ⟨W.heap.size, j, none⟩ = some (.int .u8 (x : Int)) := by
        rw [hcell j j1]
        congr 2
        unfold bytesOf
        rw [← hx, List.getD_eq_getElem?_getD, List.getElem?_map]
        have h2 : j < S.data.toList.length := by rw [Array.length_toList]; exact j1
        rw [List.getElem?_eq_getElem h2]
        simp [byt]
      have hxor := xor_u8 x b hxl hb
      have hcells2 : ∀ i, i < S.size → (W1.setCell ⟨W.heap.size, j, none⟩ (.int .u8 ((x ^^^ b : Nat) : Int))).cell? ⟨W.heap.size, 0 + i, none⟩ = some (.int .u8 (((bytesOf S).set j ((x ^^^ b : Nat) : Int)).getD i 0)) := fun i hi => by
        rw [Nat.zero_add]
        by_cases e : i = j
        · subst e
          rw [World.cell?_setCell_same W1 _ _ hcj]
          rw [List.getD_eq_getElem?_getD, List.getElem?_set_self (by rw [bytesOf_length]; exact hi)]
          rfl
        · rw [World.cell?_setCell_other W1 _ _ _ (fun h => e (by injection h with _ h; exact h.symm)), hcell i hi]
          rw [List.getD_eq_getElem?_getD, List.getD_eq_getElem?_getD, List.getElem?_set_ne (fun h => e h.symm)]
      have hcv2 := run_convert_bytes_arg (P := Try.prog) (W1.setCell ⟨W.heap.size, j, none⟩ (.int .u8 ((x ^^^ b : Nat) : Int))) 43 5 Try.underlying43 Try.underlying5 W.heap.size 0 S.size cap ((bytesOf S).set j ((x ^^^ b : Nat) : Int)) (by rw [List.length_set, bytesOf_length]) hcells2 9 Try.underlying9
      obtain ⟨S2, hS2⟩ : ∃ S2, strOfNums ((bytesOf S).set j ((x ^^^ b : Nat) : Int)) = S2 := ⟨_, rfl⟩
      rw [hS2] at hcv2
      have hS2s : S2.size ≤ 140737488351232 := by rw [← hS2, strOfNums_size, List.length_set, bytesOf_length]; exact hS
      have hbs : byt S2 = (byt S).set j (x ^^^ b) := by
        rw [← hS2]
        unfold byt
        rw [strOfNums_data, List.map_map, List.map_set]
        have e1 : List.map ((fun n : UInt8 => n.toNat) ∘ fun n : Int => UInt8.ofNat n.toNat) (bytesOf S) = List.map (fun n : UInt8 => n.toNat) S.data.toList := by
          unfold bytesOf
          rw [List.map_map]
          refine List.map_congr_left (fun y _ => ?_)
          show (UInt8.ofNat ((y.toNat : Nat) : Int).toNat).toNat = y.toNat
          rw [Int.toNat_natCast, UInt8.ofNat_toNat]
        have e2 : ((fun n : UInt8 => n.toNat) ∘ fun n : Int => UInt8.ofNat n.toNat) ((x ^^^ b : Nat) : Int) = x ^^^ b := by
          show (UInt8.ofNat ((x ^^^ b : Nat) : Int).toNat).toNat = x ^^^ b
          rw [Int.toNat_natCast, UInt8.toNat_ofNat']
          exact Nat.mod_eq_of_lt hv
        rw [e1, e2]
      have htold := crc_told S S2 j (x ^^^ b) hl hv (by rw [hx]; exact hne) hbs
      have t0 : ((((crcOf S2 : Nat) : Int)) == ((crcOf S : Nat) : Int)) = false := beq_eq_false_iff_ne.mpr (by omega)
      have t1 : ((((crcOf S2 : Nat) : Int)) != ((crcOf S : Nat) : Int)) = true := by rw [bne, t0]; rfl
      have t2 : (crcOf S2 == crcOf S) = false := beq_eq_false_iff_ne.mpr htold
      have c1 := crc_calls S2 hS2s
      have c2 := crc_calls S hS
      have hS2h := Aside0.mk hS2
      have hbl2 := Aside0.mk (Fr.set_ (S := fun k => W.heap.size ≤ k) ((Fr.refl _ W1)) ⟨W.heap.size, j, none⟩ (.int .u8 ((x ^^^ b : Nat) : Int)) (fun _ => Nat.le_refl _))
      have hbl1 := Aside0.mk hbl1
      have hsz := Aside0.mk hsz
      clear hS2 hbs htold hne hcell hold hos hcells2
      go_enter Try.func7, Try.ntmps7
      go_wp2_with (first | (go_at_call 33; (with_reducible refine (c1 _).mono ?_); rintro e w3 ⟨rfl, d3⟩) | (go_at_call 33; (with_reducible refine (c2 _).mono ?_); rintro e w4 ⟨rfl, d4⟩) | (go_at_call 17; refine (hAw _).mono ?_; rintro e w6 ⟨rfl, hbel⟩))
      go_ret
      have B2 := hbl1.out.trans (hbl2.out.to_below (B := W.heap.size) (fun k hk _ h => Nat.not_lt.2 h hk) (by have := hsz.out; omega))
      have B3 := B2.trans ((Fr.of_drawn d3).to_below (B := W.heap.size) (fun _ _ _ e => e) B2.size)
      have B4 := B3.trans ((Fr.of_drawn d4).to_below (B := W.heap.size) (fun _ _ _ e => e) B3.size)
      exact ⟨rfl, B4.trans (hbel.mono B4.size)⟩
end Go.Proofs.Ytpldapjcojjicaa.B
