/- Layer 2 (huff): Make's symbols sorted by their lengths: SortStableFunc at ints with Make's comparison. -/
import Derived.Test.YtpldapjcojjicaaMk2
import Derived.Test.YtpldapjcojjicaaIt
namespace Go.Proofs.Ytpldapjcojjicaa.B
open Go.Proofs Go.RowKit Go.Shelf Go.Sort Go.Proofs.YtpldapjcojjicaaW.PrintWords Go.Proofs.YtpldapjcojjicaaW.PrintLast Go.Proofs.YtpldapjcojjicaaW.PrintMore
set_option linter.unusedVariables false
set_option linter.unusedSimpArgs false

theorem holds1_of_block {enc : Nat → Value} {w : World} {g : Nat} {cur : Array Value} {e : TypeId} {ss : List Nat} (hb : w.heap[g]? = some (.cells cur e (0, 0))) (ht : cur.toList.take ss.length = ss.map enc) : Holds enc w g 0 ss.toArray := by
  intro j hj
  have hj' : j < ss.length := by simpa using hj
  refine ⟨?_, by simp [World.frozen?, hb]⟩
  have h1 : (cur.toList.take ss.length)[j]? = (ss.map enc)[j]? := by rw [ht]
  rw [List.getElem?_take_of_lt hj'] at h1
  simp only [World.cell?, hb, Nat.zero_add]
  simp only [Option.isSome_none, Bool.false_eq_true, if_false]
  rw [← Array.getElem?_toList, h1]
  simp [hj']
theorem heap_sorted1 {enc : Nat → Value} {w : World} {g n : Nat} {os : Array Obj} {cur : Array Value} {e : TypeId} {fr : Nat × Nat} (d : Array Nat) (hb : w.heap[g]? = some (.cells cur e fr)) :
    (grow (putRow enc (Sort.ahead w n) g 0 d) os).heap[g]? = some (.cells (putCells enc 0 d cur) e fr) := by
  have hg : g < w.heap.size := (Array.getElem?_eq_some_iff.1 hb).1
  rw [heap_grow_old _ _ (by simpa using hg)]
  simp [putRow, mapBlock, Sort.ahead, Array.getElem?_modify, hb, onCells]
theorem grownBy_sorted1 {enc : Nat → Value} {w : World} {g n : Nat} {os : Array Obj} (d : Array Nat) : w.grownBy (grow (putRow enc (Sort.ahead w n) g 0 d) os) (some g) := by
  refine ⟨rfl, rfl, rfl, by simp, fun k hk hne => ?_⟩
  rw [heap_grow_old _ _ (by simpa using hk)]
  have : g ≠ k := fun e => hne (by rw [e])
  simp [putRow, mapBlock, Sort.ahead, Array.getElem?_modify, this]
theorem take_putCells1 {enc : Nat → Value} (cur : Array Value) (ts : List Nat) (h : ts.length ≤ cur.size) : (putCells enc 0 ts.toArray cur).toList.take ts.length = ts.map enc := by
  apply List.ext_getElem?
  intro j
  by_cases hj : j < ts.length
  · rw [List.getElem?_take_of_lt hj, Array.getElem?_toList]
    simp [putCells, hj, show j < cur.size by omega]
  · rw [List.getElem?_take_eq_none (by omega), List.getElem?_eq_none (by simp; omega)]
/-- Symbols as ints; past the number of symbols they begin anew. -/
def symEnc (n : Nat) (x : Nat) : Value := .int .i64 ((x % n : Nat) : Int)
def symKey (l : List Int) (x : Nat) : Int := l.getD (x % l.length) 0
def symInts (ss : List Nat) : List Int := ss.map Int.ofNat
theorem symEnc_map (n : Nat) : ∀ ss : List Nat, (∀ x ∈ ss, x < n) → ss.map (symEnc n) = nums .i64 (symInts ss)
  | [], _ => rfl
  | x :: ss, h => by
    have ih := symEnc_map n ss fun y hy => h y (List.mem_cons_of_mem _ hy)
    rw [List.map_cons, ih]
    have e : symEnc n x = .int .i64 (x : Int) := by unfold symEnc; rw [Nat.mod_eq_of_lt (h x List.mem_cons_self)]
    rw [e]
    rfl
theorem sortSym (W : World) (base g cap B : Nat) (A : Option Addr) (c : Nat) (l : List Int) (ss : List Nat) (hown : W.ownsRow base 3 1 (.slice (some ⟨g, 0, none⟩) ss.length cap) ss.length (nums .i64 (symInts ss))) (hss : ∀ x ∈ ss, x < l.length) (hl : ss.length < 1000000000000)
    (hB : W.cell? ⟨B, 0, none⟩ = some (.slice A l.length c)) (hC : Kd.C (Kd.int .i64) W A l.length l) (hBg : B ≠ g) (hAg : ∀ ad, A = some ad → ad.block ≠ g) (h0 : 0 < l.length) :
    Calls Try.prog 61 #[.slice (some ⟨g, 0, none⟩) ss.length cap, .func (.func 62) #[] #[.pointer (some ⟨B, 0, none⟩)]] W fun e W' => e = .returned (.tuple #[]) ∧ W'.ownsRow base 3 1 (.slice (some ⟨g, 0, none⟩) ss.length cap) ss.length (nums .i64 (symInts (isort (symKey l) ss))) ∧ W.grownBy W' (some g) := by
  rcases hown.2 with ⟨h0', _⟩ | ⟨g', cap', cur, hv, hbase, hb, h1, h2, h3, h4⟩
  · cases h0'
  cases hv
  rw [Nat.mul_one, ← symEnc_map l.length ss hss] at h4
  have hH := holds1_of_block (enc := symEnc l.length) hb h4
  have hg : g < W.heap.size := (Array.getElem?_eq_some_iff.1 hb).1
  have R : Row1 (symEnc l.length) W g 0 ss.toArray := ⟨fun _ => rfl, hH, hg⟩
  have eg : ∀ args w, (callFunc 62 args).run Try.prog w = .ok (.enter 62 args) w := fun _ _ => by go_simp
  have hcmp : CmpLays1 Try.prog 62 #[.pointer (some ⟨B, 0, none⟩)] (symEnc l.length) (fun x y => cmpI (symKey l x) (symKey l y)) g 0 ss.length W := by
    intro m os dk hs x y
    have hgr : W.grownBy (sortWorld (symEnc l.length) W g 0 m dk os) (some g) := grownBy_sorted1 dk
    obtain ⟨_, _, _, _, hkeep⟩ := hgr
    have hB' : (sortWorld (symEnc l.length) W g 0 m dk os).cell? ⟨B, 0, none⟩ = some (.slice A l.length c) :=
      (World.cell?_of_block (hkeep B (World.block_lt_of_cell? W ⟨B, 0, none⟩ hB) (fun e => hBg (Option.some.inj e)))).trans hB
    have hC' : Kd.C (Kd.int .i64) (sortWorld (symEnc l.length) W g 0 m dk os) A l.length l := by
      refine ⟨hC.1, hC.2.1, fun hn => ?_⟩
      obtain ⟨ad, e, hc⟩ := hC.2.2 hn
      refine ⟨ad, e, fun j p hp => ?_⟩
      obtain ⟨cs, c1, c2, c3⟩ := hc j p hp
      refine ⟨cs, c1, c2, fun i u hu => ?_⟩
      have h5 := c3 i u hu
      exact (World.cell?_of_block (hkeep _ (World.block_lt_of_cell? W _ h5) (fun e' => hAg ad e (by have := Option.some.inj e'; rw [← this]; exact (add_block ..).symm)))).trans h5
    refine (make1_calls _ B A c l hB' hC' (x % l.length) (y % l.length) (Nat.mod_lt _ h0) (Nat.mod_lt _ h0)).mono ?_
    rintro e w' ⟨rfl, q, rfl⟩
    exact ⟨rfl, q, #[], by rw [grow_empty]⟩
  refine (sort1 (symEnc l.length) Try.prog P1.try_ (fun x y => cmpI (symKey l x) (symKey l y)) (symKey l) (fun x y => cmpI_lt _ _) 62 _ eg W g 0 ss.length cap ss.toArray R hcmp (by simp) hl).mono ?_
  rintro e W' ⟨rfl, d', hS, hP, hO⟩
  obtain ⟨n, os, rfl⟩ := hS
  have hs : d'.size = ss.length := by rw [hP.size]; simp
  have hl' : d'.toList = isort (symKey l) ss := isort_unique (by rw [← hs] at hO; exact hO.list) (by simpa using hP.seq)
  have hd : d' = (isort (symKey l) ss).toArray := by rw [← hl']
  have hlen : (isort (symKey l) ss).length = ss.length := isort_length _ _
  refine ⟨rfl, ⟨by rw [nums_length]; unfold symInts; rw [List.length_map, hlen, Nat.mul_one], .inr ⟨g, cap, _, rfl, hbase, heap_sorted1 d' hb, h1, h2, by simp [putCells, h3], ?_⟩⟩, grownBy_sorted1 d'⟩
  rw [Nat.mul_one, ← symEnc_map l.length _ (fun x hx => hss x ((isort_mem _ _ _).1 hx)), hd, ← hlen]
  exact take_putCells1 cur _ (by rw [hlen, h3]; omega)
end Go.Proofs.Ytpldapjcojjicaa.B
