/- Layer 2 (huff): coins and pairs as rows of cells; the stable sort's contract at a row that a slice owns. -/
import Derived.Test.YtpldapjcojjicaaSk7
import Derived.Test.YtpldapjcojjicaaFr
import Derived.Sort.OwnSorted
import Derived.Shelf.SlSortFuncK.RowK2
namespace Go.Proofs.Ytpldapjcojjicaa.B
open Go.Proofs Go.Shelf Go.RowKit Go.Lib Go.Sort
set_option linter.unusedVariables false
set_option linter.unusedSimpArgs false

/-- A stable sort of a list by a key. -/
def insF {α : Type} (key : α → Int) (x : α) : List α → List α
  | [] => [x]
  | y :: l => if key x ≤ key y then x :: y :: l else y :: insF key x l
def isort {α : Type} (key : α → Int) : List α → List α
  | [] => []
  | x :: l => insF key x (isort key l)
theorem insF_mem {α : Type} {key : α → Int} {x y : α} : ∀ {l : List α}, y ∈ insF key x l ↔ y = x ∨ y ∈ l
  | [] => by simp [insF]
  | z :: l => by
    unfold insF
    split
    · simp
    · rw [List.mem_cons, insF_mem, List.mem_cons]
      constructor
      · rintro (h | h | h) <;> simp [h]
      · rintro (h | h | h) <;> simp [h]
theorem insF_srt {α : Type} [Inhabited α] {key : α → Int} {x : α} : ∀ {l : List α}, Srt key l → Srt key (insF key x l)
  | [], _ => by simp [insF, Srt]
  | z :: l, h => by
    have h1 := List.pairwise_cons.1 h
    unfold insF
    split
    · rename_i c
      refine List.pairwise_cons.2 ⟨fun y hy => ?_, h⟩
      rcases List.mem_cons.1 hy with rfl | hy
      · exact c
      · have := h1.1 y hy; omega
    · rename_i c
      refine List.pairwise_cons.2 ⟨fun y hy => ?_, insF_srt h1.2⟩
      rcases insF_mem.1 hy with rfl | hy
      · omega
      · exact h1.1 y hy
theorem insF_seq {α : Type} [Inhabited α] {key : α → Int} {x : α} : ∀ {l : List α}, SEq key (x :: l) (insF key x l)
  | [] => SEq.refl _
  | z :: l => by
    unfold insF
    split
    · exact SEq.refl _
    · rename_i c
      have h2 : SEq key (x :: z :: l) (z :: x :: l) := by
        have := (SEq.swap (key := key) [x] [z] (fun a ha b hb => by simp at ha hb; subst ha; subst hb; omega)).app (SEq.refl l)
        simpa using this
      have h3 : SEq key (z :: x :: l) (z :: insF key x l) := by
        have := (SEq.refl (key := key) [z]).app (insF_seq (key := key) (x := x) (l := l))
        simpa using this
      exact h2.trans h3
theorem isort_srt {α : Type} [Inhabited α] (key : α → Int) : ∀ l : List α, Srt key (isort key l)
  | [] => List.Pairwise.nil
  | x :: l => insF_srt (isort_srt key l)
theorem isort_seq {α : Type} [Inhabited α] (key : α → Int) : ∀ l : List α, SEq key l (isort key l)
  | [] => SEq.refl _
  | x :: l => by
    have := (SEq.refl (key := key) [x]).app (isort_seq key l)
    exact (show SEq key (x :: l) (x :: isort key l) by simpa using this).trans insF_seq
theorem insF_length {α : Type} (key : α → Int) (x : α) : ∀ l : List α, (insF key x l).length = l.length + 1
  | [] => rfl
  | z :: l => by unfold insF; split <;> simp [insF_length key x l]
theorem isort_length {α : Type} (key : α → Int) : ∀ l : List α, (isort key l).length = l.length
  | [] => rfl
  | x :: l => by unfold isort; rw [insF_length, isort_length key l]; rfl
theorem isort_mem {α : Type} [Inhabited α] (key : α → Int) (l : List α) (x : α) : x ∈ isort key l ↔ x ∈ l := (isort_seq key l).mem x
theorem isort_unique {α : Type} [Inhabited α] {key : α → Int} {l l' : List α} (h : Srt key l') (s : SEq key l l') : l' = isort key l :=
  srt_unique _ _ (isort_srt key l) h ((isort_seq key l).symm.trans s)
theorem isort_of_srt {α : Type} [Inhabited α] {key : α → Int} {l : List α} (h : Srt key l) : isort key l = l := (isort_unique h (SEq.refl l)).symm
/-- Two lists that go side by side. -/
inductive Side {α β : Type} (R : α → β → Prop) : List α → List β → Prop
  | nil : Side R [] []
  | cons {a : α} {b : β} {l : List α} {m : List β} (h : R a b) (t : Side R l m) : Side R (a :: l) (b :: m)
/-- Two lists that go side by side, of the same keys: so do their sorts. -/
theorem insF_rel {α β : Type} {R : α → β → Prop} {ka : α → Int} {kb : β → Int} (hk : ∀ a b, R a b → ka a = kb b) {x : α} {y : β} (hxy : R x y) : ∀ {l : List α} {m : List β}, Side R l m → Side R (insF ka x l) (insF kb y m)
  | _, _, .nil => .cons hxy .nil
  | _, _, .cons (a := a) (b := b) h t => by
    unfold insF
    rw [hk _ _ hxy, hk _ _ h]
    split
    · exact .cons hxy (.cons h t)
    · exact .cons h (insF_rel hk hxy t)
theorem isort_rel {α β : Type} {R : α → β → Prop} {ka : α → Int} {kb : β → Int} (hk : ∀ a b, R a b → ka a = kb b) : ∀ {l : List α} {m : List β}, Side R l m → Side R (isort ka l) (isort kb m)
  | _, _, .nil => .nil
  | _, _, .cons h t => insF_rel hk h (isort_rel hk t)

/-- A coin or a pair, as its cells: how much it counts, its symbol, the slice of its two. -/
structure It where
  n : Int
  s : Int
  p : Option Addr
  l : Nat
  c : Nat
instance : Inhabited It := ⟨⟨0, 0, none, 0, 0⟩⟩
def It.cells (x : It) : List Value := [.int .i64 x.n, .int .i64 x.s, .slice x.p x.l x.c]
def flat (its : List It) : List Value := its.flatMap It.cells
theorem flat_nil : flat [] = [] := rfl
theorem flat_cons (x : It) (l : List It) : flat (x :: l) = .int .i64 x.n :: .int .i64 x.s :: .slice x.p x.l x.c :: flat l := rfl
theorem flat_append (l m : List It) : flat (l ++ m) = flat l ++ flat m := by simp [flat]
theorem flat_len : ∀ l : List It, (flat l).length = l.length * 3
  | [] => rfl
  | x :: l => by rw [flat_cons]; simp only [List.length_cons, flat_len l]; omega
theorem flat_get : ∀ (l : List It) (t : Nat), t < l.length * 3 → (flat l)[t]? = (l[t / 3]?.getD default).cells[t % 3]?
  | [], t, h => by simp at h
  | x :: l, 0, _ => rfl
  | x :: l, 1, _ => rfl
  | x :: l, 2, _ => rfl
  | x :: l, t + 3, h => by
    rw [flat_cons, show (t + 3) / 3 = t / 3 + 1 by omega, show (t + 3) % 3 = t % 3 by omega]
    simp only [List.getElem?_cons_succ]
    exact flat_get l t (by simp only [List.length_cons] at h; omega)
theorem cells_len (x : It) : x.cells.length = 3 := rfl
theorem cells_one (x : It) : ∀ v ∈ x.cells, v.oneCell' = true := fun v hv => by
  simp only [It.cells, List.mem_cons, List.not_mem_nil, or_false] at hv
  rcases hv with rfl | rfl | rfl <;> rfl
theorem flatK_flat (its : List It) : (flatK It.cells 3 its.toArray).toList = flat its := by
  refine List.ext_getElem? fun t => ?_
  by_cases h : t < its.length * 3
  · have e1 := get_flatK It.cells 3 its.toArray t (by simpa using h)
    rw [getElem!_pos _ t (by simpa using h)] at e1
    rw [flat_get its t h, Array.getElem?_toList, Array.getElem?_eq_getElem (by simpa using h), e1]
    have h3 : t % 3 < 3 := Nat.mod_lt _ (by decide)
    have hd : t / 3 < its.length := by omega
    have e2 : its.toArray[t / 3]! = its[t / 3]?.getD default := by simp [hd]
    rw [e2]
    generalize its[t / 3]?.getD default = x
    unfold It.cells
    match t % 3, h3 with
    | 0, _ => rfl
    | 1, _ => rfl
    | 2, _ => rfl
  · rw [List.getElem?_eq_none (by simp; omega), List.getElem?_eq_none (by rw [flat_len]; omega)]

/-- The slice v owns the row of its. -/
def RI (W : World) (base : Nat) (v : Value) (its : List It) : Prop := W.ownsRow base 87 3 v its.length (flat its)

theorem holdsK_of_block {w : World} {g : Nat} {cur : Array Value} {its : List It} (hb : w.heap[g]? = some (.cells cur 87 (0, 0))) (ht : cur.toList.take (its.length * 3) = flat its) : HoldsK It.cells 3 w g 0 its.toArray := by
  intro j hj
  have hj' : j < its.length * 3 := by simpa using hj
  refine ⟨?_, by simp [World.frozen?, hb]⟩
  have h1 : (cur.toList.take (its.length * 3))[j]? = (flatK It.cells 3 its.toArray).toList[j]? := by rw [ht, flatK_flat]
  rw [List.getElem?_take_of_lt hj'] at h1
  simp only [World.cell?, hb, Nat.zero_add]
  simp only [Option.isSome_none, Bool.false_eq_true, if_false]
  rw [← Array.getElem?_toList, h1, Array.getElem?_toList, Array.getElem?_eq_getElem hj, getElem!_pos _ j hj]
  rfl
theorem heap_sortedK {w : World} {g n : Nat} {os : Array Obj} {cur : Array Value} {e : TypeId} {fr : Nat × Nat} (d : Array It) (hb : w.heap[g]? = some (.cells cur e fr)) :
    (sortWorldK It.cells 3 w g 0 n d os).heap[g]? = some (.cells (putCells id 0 (flatK It.cells 3 d) cur) e fr) := by
  have hg : g < w.heap.size := (Array.getElem?_eq_some_iff.1 hb).1
  unfold sortWorldK
  rw [heap_grow_old _ _ (by rw [size_putRowK]; exact hg)]
  simp [putRowK, putRow, mapBlock, Sort.ahead, Array.getElem?_modify, hb, onCells]
theorem grownBy_sortedK {w : World} {g n : Nat} {os : Array Obj} (d : Array It) : w.grownBy (sortWorldK It.cells 3 w g 0 n d os) (some g) := by
  unfold sortWorldK
  refine ⟨rfl, rfl, rfl, ?_, fun k hk hne => ?_⟩
  · rw [size_grow, size_putRowK]
    exact Nat.le_add_right _ _
  · rw [heap_grow_old _ _ (by rw [size_putRowK]; exact hk)]
    have : g ≠ k := fun e => hne (by rw [e])
    simp [putRowK, putRow, mapBlock, Sort.ahead, Array.getElem?_modify, this]
theorem take_putCellsK (cur : Array Value) (ts : List It) (h : ts.length * 3 ≤ cur.size) : (putCells id 0 (flatK It.cells 3 ts.toArray) cur).toList.take (ts.length * 3) = flat ts := by
  rw [← flatK_flat]
  apply List.ext_getElem?
  intro j
  by_cases hj : j < ts.length * 3
  · rw [List.getElem?_take_of_lt hj, Array.getElem?_toList, Array.getElem?_toList]
    have h2 : j < (flatK It.cells 3 ts.toArray).size := by simpa using hj
    simp [putCells, hj, show j < cur.size by omega, h2]
  · rw [List.getElem?_take_eq_none (by omega), List.getElem?_eq_none (by simp; omega)]

def cmpI (x y : Int) : Int := if x < y then -1 else if y < x then 1 else 0
theorem isNaN_calls (W : World) (x : Int) : Calls Try.prog 68 #[.int .i64 x] W fun e W' => e = .returned (.bool false) ∧ W' = W := by
  go_enter Try.func68, Try.ntmps68
  go_wp2
  go_ret
  simp
theorem compare_calls (W : World) (x y : Int) : Calls Try.prog 63 #[.int .i64 x, .int .i64 y] W fun e W' => e = .returned (.int .i64 (cmpI x y)) ∧ W' = W := by
  unfold cmpI
  by_cases h1 : x < y
  · have k1 : decide (x < y) = true := decide_eq_true h1
    rw [if_pos h1]
    go_enter Try.func63, Try.ntmps63
    go_wp2_with (go_at_call 68; refine (isNaN_calls _ _).mono ?_; rintro e w1 ⟨rfl, rfl⟩)
    go_ret
    exact ⟨rfl, rfl⟩
  · have k1 : decide (x < y) = false := decide_eq_false h1
    rw [if_neg h1]
    by_cases h2 : y < x
    · have k2 : decide (y < x) = true := decide_eq_true h2
      rw [if_pos h2]
      go_enter Try.func63, Try.ntmps63
      go_wp2_with (go_at_call 68; refine (isNaN_calls _ _).mono ?_; rintro e w1 ⟨rfl, rfl⟩)
      go_ret
      exact ⟨rfl, rfl⟩
    · have k2 : decide (y < x) = false := decide_eq_false h2
      rw [if_neg h2]
      go_enter Try.func63, Try.ntmps63
      go_wp2_with (go_at_call 68; refine (isNaN_calls _ _).mono ?_; rintro e w1 ⟨rfl, rfl⟩)
      go_ret
      exact ⟨rfl, rfl⟩
theorem cmpI_lt (x y : Int) : cmpI x y < 0 ↔ x < y := by
  unfold cmpI
  split
  · omega
  · split <;> omega
set_option maxHeartbeats 1000000 in
theorem byCount_calls (x y : It) (W : World) : Calls Try.prog 55 #[.agg x.cells.toArray, .agg y.cells.toArray] W fun e w' => e = .returned (.int .i64 (cmpI x.n y.n)) ∧ ∃ q os', w' = grow (W.drewN q) os' := by
  have hcon := fun W' => compare_calls W' x.n y.n
  generalize cmpI x.n y.n = r at hcon ⊢
  unfold It.cells
  go_enter Try.func55, Try.ntmps55
  go_wp2_with (go_at_call 63; refine (hcon _).mono ?_; rintro e w' ⟨rfl, rfl⟩)
  go_ret
  exact ⟨rfl, 0, _, by rw [alloc_eq_grow, alloc_eq_grow, grow_grow]; rfl⟩
theorem byCount_lays (blk off size : Nat) (w : World) : CmpLays Try.prog 55 #[] It.cells 3 (fun x y => cmpI x.n y.n) blk off size w :=
  fun _ _ _ _ x y => byCount_calls x y _
/-- SortStableFunc at coins and pairs that a slice owns. -/
theorem sortItems (W : World) (base g cap : Nat) (its : List It) (hown : RI W base (.slice (some ⟨g, 0, none⟩) its.length cap) its) (hl : its.length < 1000000000000) :
    Calls Try.prog 54 #[.slice (some ⟨g, 0, none⟩) its.length cap, .func (.func 55) #[] #[]] W fun e W' => e = .returned (.tuple #[]) ∧ RI W' base (.slice (some ⟨g, 0, none⟩) its.length cap) (isort It.n its) ∧ W.grownBy W' (some g) := by
  rcases hown.2 with ⟨h0, _⟩ | ⟨g', cap', cur, hv, hbase, hb, h1, h2, h3, h4⟩
  · cases h0
  cases hv
  have hH := holdsK_of_block hb h4
  have hg : g < W.heap.size := (Array.getElem?_eq_some_iff.1 hb).1
  have R : RowK It.cells 3 W g 0 its.toArray := ⟨cells_len, cells_one, hH, hg⟩
  have eg : ∀ args w, (callFunc 55 args).run Try.prog w = .ok (.enter 55 args) w := fun _ _ => by go_simp
  refine (sortK It.cells Try.prog 3 PK.try_ (fun x y => cmpI x.n y.n) It.n (fun x y => cmpI_lt _ _) 55 #[] eg W g 0 its.length cap its.toArray R (byCount_lays g 0 its.length W) (by simp) hl).mono ?_
  rintro e W' ⟨rfl, d', hS, hP, hO⟩
  obtain ⟨n, os, rfl⟩ := hS
  have hs : d'.size = its.length := by rw [hP.size]; simp
  have hl' : d'.toList = isort It.n its := isort_unique (by rw [← hs] at hO; exact hO.list) (by simpa using hP.seq)
  have hd : d' = (isort It.n its).toArray := by rw [← hl']
  refine ⟨rfl, ?_, grownBy_sortedK d'⟩
  have hlen : (isort It.n its).length = its.length := isort_length _ _
  unfold RI
  rw [hlen]
  refine ⟨by rw [flat_len, hlen], .inr ⟨g, cap, _, rfl, hbase, heap_sortedK d' hb, h1, h2, by simp [putCells, h3], ?_⟩⟩
  rw [hd]
  have := take_putCellsK cur (isort It.n its) (by rw [hlen, h3]; exact Nat.mul_le_mul_right 3 h1)
  rw [hlen] at this
  exact this
end Go.Proofs.Ytpldapjcojjicaa.B
