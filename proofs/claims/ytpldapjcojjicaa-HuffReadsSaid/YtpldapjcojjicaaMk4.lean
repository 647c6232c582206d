/- Layer 2 (huff): SortStableFunc at a nil slice of ints. Joined of texts: Layer 2 (huff): Clone at ints, and the comparison that Make hands to the sort. Layer 2 (huff): the comparison that Make hands to the sort: its contract. Layer 2 (huff): Make's symbols sorted by their lengths: SortStableFunc at ints with Make's comparison. -/
import Derived.Test.YtpldapjcojjicaaCo
import Derived.Test.YtpldapjcojjicaaCl
import Derived.OwnWalk
import Derived.Test.YtpldapjcojjicaaSi7
import Derived.Deep.QuietTactic
import Derived.BigQuiet
import Derived.Test.YtpldapjcojjicaaIt
namespace Go.Proofs.Ytpldapjcojjicaa.B
open Go.RowKit Go.Proofs.YtpldapjcojjicaaW.PrintWords Go.Proofs.YtpldapjcojjicaaW.PrintLast Go.Proofs.YtpldapjcojjicaaW.PrintMore
set_option linter.unusedVariables false
set_option linter.unusedSimpArgs false
theorem nums_one (l : List Int) : ∀ u ∈ nums .i64 l, u.oneCell' = true := fun u hu => by
  obtain ⟨x, _, rfl⟩ := List.mem_map.1 hu
  rfl
set_option maxHeartbeats 1000000 in
set_option maxRecDepth 100000 in
theorem clone1_calls (W : World) (A : Option Addr) (c : Nat) (l : List Int) (hC : Kd.C (Kd.int .i64) W A l.length l) (hl : l.length ≤ 1000000) :
    Calls Try.prog 60 #[.slice A l.length c] W fun e W' => ∃ v, e = .returned v ∧ W'.ownsRow W.heap.size 3 1 v l.length (nums .i64 l) ∧ Below W.heap.size W W' := by
  cases A with
  | none =>
    have h0 : l = [] := by
      cases l with
      | nil => rfl
      | cons x l =>
        obtain ⟨ad, e, _⟩ := hC.2.2 (by simp)
        cases e
    subst h0
    have hnil : (binOp .eql 51 (.slice none ([] : List Int).length c) (.slice none 0 0)).run Try.prog W = .ok (.bool true) W := Lib.run_eql_slice_nil W 51 3 none _ c 0 0 Try.underlying51
    simp only [List.length_nil] at hnil ⊢
    clear hC hl
    go_enter Try.func60, Try.ntmps60
    go_wp2
    go_ret
    exact ⟨_, rfl, World.ownsRow_nil _ _ _ _, Below.refl _ _⟩
  | some ad =>
    obtain ⟨i0, hi, hz⟩ := Option.map_eq_some_iff.1 info3c
    simp only [Prod.mk.injEq] at hz
    obtain ⟨hz0, hz1, hz2⟩ := hz
    have hu := Try.underlying51
    have hnil : (binOp .eql 51 (.slice (some ad) l.length c) (.slice none 0 0)).run Try.prog W = .ok (.bool false) W := Lib.run_eql_slice_nil W 51 3 (some ad) l.length c 0 0 hu
    have hown : (W.alloc (.cells #[] 3)).ownsRow W.heap.size 3 1 (.slice (some ⟨W.heap.size, 0, none⟩) 0 0) 0 [] :=
      ⟨rfl, .inr ⟨W.heap.size, 0, #[], rfl, Nat.le_refl _, heap_alloc_new W _, Nat.le_refl _, Nat.zero_le _, rfl, rfl⟩⟩
    have hbel : Aside0 (Below W.heap.size W (W.alloc (.cells #[] 3))) := ⟨(Below.refl _ W).alloc (Nat.le_refl _) _⟩
    have hnews : ∀ j u, (nums .i64 l)[j]? = some u → (W.alloc (.cells #[] 3)).cell? (ad.add j) = some u := fun j u h => by
      have hj : j < l.length := by
        rcases Nat.lt_or_ge j l.length with q | q
        · exact q
        · rw [List.getElem?_eq_none (by rw [nums_length]; exact q)] at h; cases h
      obtain ⟨ad', e, hx⟩ := Kd.at_int hC (j : Int) (by omega) (by omega)
      cases e
      rw [Int.toNat_natCast] at hx
      have hv : u = .int .i64 (rd l (j : Int)) := by
        unfold nums at h
        rw [List.getElem?_map, List.getElem?_eq_getElem hj] at h
        have h := Option.some.inj h
        rw [← h]
        unfold rd
        rw [Int.toNat_natCast, List.getD_eq_getElem?_getD, List.getElem?_eq_getElem hj]
        rfl
      rw [hv, ← hx]
      exact hbel.out.cell (World.block_lt_of_cell? W _ hx)
    have hown := Aside0.mk hown
    have hnews := Aside0.mk hnews
    clear hC
    go_enter Try.func60, Try.ntmps60
    go_wp2_with (at_builtin; refine wpList_append_own _ rfl (.tmp 5) (.tmp 6) 51 rfl W.heap.size 3 i0 (.int .i64 0) 1 8 Try.underlying51 hi hz0 hz1 hz2 rfl (by decide) (.slice (some ⟨W.heap.size, 0, none⟩) 0 0) 0 [] rfl hown.out ad l.length c (nums .i64 l) rfl (by rw [nums_length]; omega) hnews.out (nums_one l) (by unfold maxLen; omega) (by omega) (by simp) ?_; intro v1 w1 hown1 hgrow1 _; replace hown1 := Aside0.mk hown1; replace hgrow1 := Aside0.mk hgrow1)
    go_ret
    refine ⟨v1, rfl, ?_, ?_⟩
    · have := hown1.out
      rw [Nat.zero_add, List.nil_append] at this
      exact this
    · exact hbel.out.grown hgrow1.out (by simp) (fun k e => by simp [Value.ownBlock] at e; omega)
end Go.Proofs.Ytpldapjcojjicaa.B

namespace Go.Proofs.Ytpldapjcojjicaa.B
open Go.RowKit Go.Proofs.YtpldapjcojjicaaW.PrintWords Go.Proofs.YtpldapjcojjicaaW.PrintLast Go.Proofs.YtpldapjcojjicaaW.PrintMore
set_option linter.unusedVariables false
set_option linter.unusedSimpArgs false
set_option maxHeartbeats 1000000 in
set_option maxRecDepth 100000 in
theorem make1_calls (W : World) (B : Nat) (A : Option Addr) (c : Nat) (l : List Int) (hB : W.cell? ⟨B, 0, none⟩ = some (.slice A l.length c)) (hC : Kd.C (Kd.int .i64) W A l.length l) (x y : Nat) (hx : x < l.length) (hy : y < l.length) :
    Calls Try.prog 62 #[.int .i64 (x : Int), .int .i64 (y : Int), .pointer (some ⟨B, 0, none⟩)] W fun e W' => e = .returned (.int .i64 (cmpI (l.getD x 0) (l.getD y 0))) ∧ ∃ q, W' = W.drewN q := by
  obtain ⟨ad, eA, h1⟩ := Kd.at_int hC (x : Int) (by omega) (by omega)
  obtain ⟨ad2, eA2, h2⟩ := Kd.at_int hC (y : Int) (by omega) (by omega)
  subst eA
  cases eA2
  have r1 : rd l (x : Int) = l.getD x 0 := by unfold rd; rw [Int.toNat_natCast]
  have r2 : rd l (y : Int) = l.getD y 0 := by unfold rd; rw [Int.toNat_natCast]
  rw [r1, Int.toNat_natCast] at h1
  rw [r2, Int.toNat_natCast] at h2
  have p1 := eq_true (show (0 : Int) ≤ (x : Int) by omega)
  have q1 := eq_true (show (x : Int) < (l.length : Int) by omega)
  have p2 := eq_true (show (0 : Int) ≤ (y : Int) by omega)
  have q2 := eq_true (show (y : Int) < (l.length : Int) by omega)
  have q3 := eq_true hx
  have q4 := eq_true hy
  have hcmp := fun W' => compare_calls W' (l.getD x 0) (l.getD y 0)
  clear r1 r2 hC hx hy
  generalize l.getD x 0 = u at *
  generalize l.getD y 0 = v at *
  generalize cmpI u v = z at *
  have hcmp := Aside0.mk hcmp
  go_enter Try.func62, Try.ntmps62
  go_wp2
  go_quiet (first | (go_at_call 63; refine Calls.quiet_of_same (hcmp.out _)))
  go_wp2
  go_ret
  exact ⟨rfl, _, rfl⟩
end Go.Proofs.Ytpldapjcojjicaa.B

namespace Go.Proofs.Ytpldapjcojjicaa.B
open Go.Proofs Go.RowKit Go.Shelf Go.Sort Go.Proofs.YtpldapjcojjicaaW.PrintWords Go.Proofs.YtpldapjcojjicaaW.PrintLast Go.Proofs.YtpldapjcojjicaaW.PrintMore
set_option linter.unusedVariables false
set_option linter.unusedSimpArgs false

theorem holds1_of_block {enc : Nat → Value} {w : World} {g : Nat} {cur : Array Value} {e : TypeId} {ss : List Nat} (hb : w.heap[g]? = some (.cells cur e (0, 0))) (ht : cur.toList.take ss.length = ss.map enc) : Holds enc w g 0 ss.toArray := by
  intro j hj
  have hj' : j < ss.length := by simpa using hj
  refine ⟨?_, by simp [World.frozen?, hb]⟩
  have h1 : (cur.toList.take ss.length)[j]? = (ss.map enc)[j]? := by rw [ht]
  rw [List.getElem?_take_of_lt hj'] at h1
  simp only [World.cell?, hb, Nat.zero_add]
  simp only [Option.isSome_none, Bool.false_eq_true, if_false]
  rw [← Array.getElem?_toList, h1]
  simp [hj']
theorem heap_sorted1 {enc : Nat → Value} {w : World} {g n : Nat} {os : Array Obj} {cur : Array Value} {e : TypeId} {fr : Nat × Nat} (d : Array Nat) (hb : w.heap[g]? = some (.cells cur e fr)) :
    (grow (putRow enc (Sort.ahead w n) g 0 d) os).heap[g]? = some (.cells (putCells enc 0 d cur) e fr) := by
  have hg : g < w.heap.size := (Array.getElem?_eq_some_iff.1 hb).1
  rw [heap_grow_old _ _ (by simpa using hg)]
  simp [putRow, mapBlock, Sort.ahead, Array.getElem?_modify, hb, onCells]
theorem grownBy_sorted1 {enc : Nat → Value} {w : World} {g n : Nat} {os : Array Obj} (d : Array Nat) : w.grownBy (grow (putRow enc (Sort.ahead w n) g 0 d) os) (some g) := by
  refine ⟨rfl, rfl, rfl, by simp, fun k hk hne => ?_⟩
  rw [heap_grow_old _ _ (by simpa using hk)]
  have : g ≠ k := fun e => hne (by rw [e])
  simp [putRow, mapBlock, Sort.ahead, Array.getElem?_modify, this]
theorem take_putCells1 {enc : Nat → Value} (cur : Array Value) (ts : List Nat) (h : ts.length ≤ cur.size) : (putCells enc 0 ts.toArray cur).toList.take ts.length = ts.map enc := by
  apply List.ext_getElem?
  intro j
  by_cases hj : j < ts.length
  · rw [List.getElem?_take_of_lt hj, Array.getElem?_toList]
    simp [putCells, hj, show j < cur.size by omega]
  · rw [List.getElem?_take_eq_none (by omega), List.getElem?_eq_none (by simp; omega)]
/-- Symbols as ints; past the number of symbols they begin anew. -/
def symEnc (n : Nat) (x : Nat) : Value := .int .i64 ((x % n : Nat) : Int)
def symKey (l : List Int) (x : Nat) : Int := l.getD (x % l.length) 0
def symInts (ss : List Nat) : List Int := ss.map Int.ofNat
theorem symEnc_map (n : Nat) : ∀ ss : List Nat, (∀ x ∈ ss, x < n) → ss.map (symEnc n) = nums .i64 (symInts ss)
  | [], _ => rfl
  | x :: ss, h => by
    have ih := symEnc_map n ss fun y hy => h y (List.mem_cons_of_mem _ hy)
    rw [List.map_cons, ih]
    have e : symEnc n x = .int .i64 (x : Int) := by unfold symEnc; rw [Nat.mod_eq_of_lt (h x List.mem_cons_self)]
    rw [e]
    rfl
theorem sortSym (W : World) (base g cap B : Nat) (A : Option Addr) (c : Nat) (l : List Int) (ss : List Nat) (hown : W.ownsRow base 3 1 (.slice (some ⟨g, 0, none⟩) ss.length cap) ss.length (nums .i64 (symInts ss))) (hss : ∀ x ∈ ss, x < l.length) (hl : ss.length < 1000000000000)
    (hB : W.cell? ⟨B, 0, none⟩ = some (.slice A l.length c)) (hC : Kd.C (Kd.int .i64) W A l.length l) (hBg : B ≠ g) (hAg : ∀ ad, A = some ad → ad.block ≠ g) (h0 : 0 < l.length) :
    Calls Try.prog 61 #[.slice (some ⟨g, 0, none⟩) ss.length cap, .func (.func 62) #[] #[.pointer (some ⟨B, 0, none⟩)]] W fun e W' => e = .returned (.tuple #[]) ∧ W'.ownsRow base 3 1 (.slice (some ⟨g, 0, none⟩) ss.length cap) ss.length (nums .i64 (symInts (isort (symKey l) ss))) ∧ W.grownBy W' (some g) := by
  rcases hown.2 with ⟨h0', _⟩ | ⟨g', cap', cur, hv, hbase, hb, h1, h2, h3, h4⟩
  · cases h0'
  cases hv
  rw [Nat.mul_one, ← symEnc_map l.length ss hss] at h4
  have hH := holds1_of_block (enc := symEnc l.length) hb h4
  have hg : g < W.heap.size := (Array.getElem?_eq_some_iff.1 hb).1
  have R : Row1 (symEnc l.length) W g 0 ss.toArray := ⟨fun _ => rfl, hH, hg⟩
  have eg : ∀ args w, (callFunc 62 args).run Try.prog w = .ok (.enter 62 args) w := fun _ _ => by go_simp
  have hcmp : CmpLays1 Try.prog 62 #[.pointer (some ⟨B, 0, none⟩)] (symEnc l.length) (fun x y => cmpI (symKey l x) (symKey l y)) g 0 ss.length W := by
    intro m os dk hs x y
    have hgr : W.grownBy (sortWorld (symEnc l.length) W g 0 m dk os) (some g) := grownBy_sorted1 dk
    obtain ⟨_, _, _, _, hkeep⟩ := hgr
    have hB' : (sortWorld (symEnc l.length) W g 0 m dk os).cell? ⟨B, 0, none⟩ = some (.slice A l.length c) :=
      (World.cell?_of_block (hkeep B (World.block_lt_of_cell? W ⟨B, 0, none⟩ hB) (fun e => hBg (Option.some.inj e)))).trans hB
    have hC' : Kd.C (Kd.int .i64) (sortWorld (symEnc l.length) W g 0 m dk os) A l.length l := by
      refine ⟨hC.1, hC.2.1, fun hn => ?_⟩
      obtain ⟨ad, e, hc⟩ := hC.2.2 hn
      refine ⟨ad, e, fun j p hp => ?_⟩
      obtain ⟨cs, c1, c2, c3⟩ := hc j p hp
      refine ⟨cs, c1, c2, fun i u hu => ?_⟩
      have h5 := c3 i u hu
      exact (World.cell?_of_block (hkeep _ (World.block_lt_of_cell? W _ h5) (fun e' => hAg ad e (by have := Option.some.inj e'; rw [← this]; exact (add_block ..).symm)))).trans h5
    refine (make1_calls _ B A c l hB' hC' (x % l.length) (y % l.length) (Nat.mod_lt _ h0) (Nat.mod_lt _ h0)).mono ?_
    rintro e w' ⟨rfl, q, rfl⟩
    exact ⟨rfl, q, #[], by rw [grow_empty]⟩
  refine (sort1 (symEnc l.length) Try.prog P1.try_ (fun x y => cmpI (symKey l x) (symKey l y)) (symKey l) (fun x y => cmpI_lt _ _) 62 _ eg W g 0 ss.length cap ss.toArray R hcmp (by simp) hl).mono ?_
  rintro e W' ⟨rfl, d', hS, hP, hO⟩
  obtain ⟨n, os, rfl⟩ := hS
  have hs : d'.size = ss.length := by rw [hP.size]; simp
  have hl' : d'.toList = isort (symKey l) ss := isort_unique (by rw [← hs] at hO; exact hO.list) (by simpa using hP.seq)
  have hd : d' = (isort (symKey l) ss).toArray := by rw [← hl']
  have hlen : (isort (symKey l) ss).length = ss.length := isort_length _ _
  refine ⟨rfl, ⟨by rw [nums_length]; unfold symInts; rw [List.length_map, hlen, Nat.mul_one], .inr ⟨g, cap, _, rfl, hbase, heap_sorted1 d' hb, h1, h2, by simp [putCells, h3], ?_⟩⟩, grownBy_sorted1 d'⟩
  rw [Nat.mul_one, ← symEnc_map l.length _ (fun x hx => hss x ((isort_mem _ _ _).1 hx)), hd, ← hlen]
  exact take_putCells1 cur _ (by rw [hlen, h3]; omega)
end Go.Proofs.Ytpldapjcojjicaa.B

namespace Go.Proofs.Ytpldapjcojjicaa.B
open Go.Proofs Go.RowKit Go.Proofs.YtpldapjcojjicaaW.PrintWords Go.Proofs.YtpldapjcojjicaaW.PrintLast Go.Proofs.YtpldapjcojjicaaW.PrintMore
set_option linter.unusedVariables false
set_option linter.unusedSimpArgs false
set_option maxRecDepth 100000 in
theorem nil71 (W : World) (f : Value) : Calls Try.prog 71 #[.slice none 0 0, .int .i64 0, .int .i64 0, f] W fun e W' => e = .returned (.tuple #[]) ∧ W' = W := by
  go_enter Try.func71, Try.ntmps71
  go_wp2
  go_loopg [8] 0 (fun gh v8 wr => v8 = .int .i64 1 ∧ wr = W)
  case atStart => exact ⟨by go_num, rfl⟩
  case round =>
    obtain ⟨rfl, rfl⟩ := hrel
    go_wp2
    go_end0
    exact ⟨rfl, rfl⟩
set_option maxRecDepth 100000 in
theorem nil67 (W : World) (f : Value) : Calls Try.prog 67 #[.slice none 0 0, .int .i64 0, f] W fun e W' => e = .returned (.tuple #[]) ∧ W' = W := by
  have h71 := fun W' => nil71 W' f
  go_enter Try.func67, Try.ntmps67
  go_wp2
  go_loopg [7, 8] 0 (fun gh v7 v8 wr => v7 = .int .i64 0 ∧ v8 = .int .i64 20 ∧ wr = W)
  case atStart => exact ⟨rfl, rfl, rfl⟩
  case round =>
    obtain ⟨rfl, rfl, rfl⟩ := hrel
    go_wp2_with (go_at_call 71; refine (h71 _).mono ?_; rintro e w1 ⟨rfl, rfl⟩)
    go_loopg [6] 0 (fun gh v6 wr2 => v6 = .int .i64 20 ∧ wr2 = w1)
    case atStart => exact ⟨rfl, rfl⟩
    case round =>
      obtain ⟨rfl, rfl⟩ := hrel
      go_wp2
      go_end0
      exact ⟨rfl, rfl⟩
set_option maxRecDepth 100000 in
theorem nil61 (W : World) (f : Value) : Calls Try.prog 61 #[.slice none 0 0, f] W fun e W' => e = .returned (.tuple #[]) ∧ W' = W := by
  have h67 := fun W' => nil67 W' f
  go_enter Try.func61, Try.ntmps61
  go_wp2_with (go_at_call 67; refine (h67 _).mono ?_; rintro e w1 ⟨rfl, rfl⟩)
  go_end0
  exact ⟨rfl, rfl⟩
end Go.Proofs.Ytpldapjcojjicaa.B
