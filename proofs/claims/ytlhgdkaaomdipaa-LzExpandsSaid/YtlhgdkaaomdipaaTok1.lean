/- Layer 4 (lz): what the map of positions holds, and that one round of the closure keeps it. No walk in this text. -/
import Derived.Test.YtlhgdkaaomdipaaPr0
import Derived.Maps.OwnRows
import Derived.Maps.GroupsBeside
import Derived.Maps.Views
import Derived.StringKeys
namespace Go.Proofs.Ytlhgdkaaomdipaa.Tok
open Go.RowKit Go.Maps Go.WideMaps Go.Proofs.YtlhgdkaaomdipaaW.PrintWords Go.Proofs.YtlhgdkaaomdipaaW.PrintLast
open Go.ChangeShapes (lits)

/-- The three bytes from j on. -/
def key3 (d : ByteArray) (j : Nat) : List UInt8 := (d.extract j (j + 3)).data.toList
/-- The places ahead of i at which these three bytes stand, rising. -/
def posOf (d : ByteArray) (i : Nat) (key : List UInt8) : List Nat := (List.range i).filter fun j => decide (j + 3 ≤ d.size) && (key3 d j == key)
def ints (l : List Nat) : List Int := l.map fun j : Nat => (j : Int)

theorem posOf_succ (d : ByteArray) (i : Nat) (key : List UInt8) : posOf d (i + 1) key = posOf d i key ++ (if decide (i + 3 ≤ d.size) && (key3 d i == key) then [i] else []) := by
  unfold posOf
  rw [List.range_succ, List.filter_append]
  congr 1
  simp [List.filter_cons]
theorem posOf_len (d : ByteArray) (i : Nat) (key : List UInt8) : (posOf d i key).length ≤ i := by
  unfold posOf
  exact Nat.le_trans (List.length_filter_le _ _) (by simp)
theorem posOf_lt {d : ByteArray} {i : Nat} {key : List UInt8} {j : Nat} (h : j ∈ posOf d i key) : j < i ∧ j + 3 ≤ d.size ∧ key3 d j = key := by
  unfold posOf at h
  simp at h
  exact h

theorem law9 : Keyed Try.prog 9 := string_keyed Try.underlying9
theorem zero37 (w : World) : (zeroValue 37).run Try.prog w = .ok (.slice none 0 0) w := by kernel_rfl
theorem info3 : (Try.prog.info? 3).map (fun i => (i.zero, i.size, i.bytes)) = some (some (.int .i64 0), 1, 8) := by kernel_rfl

/-- Block mb is the map of the places ahead of i, by their three bytes. -/
def Seen (w : World) (base mb : Nat) (d : ByteArray) (i : Nat) : Prop :=
  ∃ D : DataW Unit, w.ownsGroups Try.prog 9 base 3 .i64 mb i D ∧ IsMap D ∧
    ∀ key : List UInt8, (D.atKey (.string key) .nil = .nil ∧ posOf d i key = []) ∨ D.atKey (.string key) .nil = .slice (lits .i64 (ints (posOf d i key))) []

theorem ownsGroups_mono {w : World} {base mb n n' : Nat} {D : DataW Unit} (h : w.ownsGroups Try.prog 9 base 3 .i64 mb n D) (hn : n ≤ n') : w.ownsGroups Try.prog 9 base 3 .i64 mb n' D := by
  obtain ⟨es, clock, hb, F, hs, hD, hbb, hlen, hap⟩ := h
  exact ⟨es, clock, hb, F, Nat.le_trans hs hn, hD, hbb, fun x hx zs ho => Nat.le_trans (hlen x hx zs ho) hn, hap⟩

theorem Seen.later {w : World} {base mb : Nat} {d : ByteArray} {i j : Nat} (h : Seen w base mb d i) (hij : i ≤ j) (hd : d.size < i + 3) : Seen w base mb d j := by
  obtain ⟨D, ho, hm, ha⟩ := h
  refine ⟨D, ownsGroups_mono ho hij, hm, fun key => ?_⟩
  have e : posOf d j key = posOf d i key := by
    clear ho ha
    obtain ⟨k, rfl⟩ : ∃ k, j = i + k := ⟨j - i, by omega⟩
    clear hij
    induction k with
    | zero => rfl
    | succ k ih =>
      rw [← Nat.add_assoc, posOf_succ, ih]
      have : ¬ (i + k + 3 ≤ d.size) := by omega
      simp [this]
  rw [e]
  exact ha key

theorem Seen.made (w : World) (d : ByteArray) (base : Nat) (hb : w.heap.size < base) : Seen (w.alloc (.map #[] 0)) base w.heap.size d 0 :=
  ⟨.map [], ⟨#[], 0, (MapKept.heap_alloc w _).1, ⟨by simp, MapKept.stamped_empty 0, by simp⟩, Nat.le_refl _, rfl, hb, by simp, by simp⟩, isMap_empty, fun _ => .inl ⟨rfl, rfl⟩⟩

/-- Over whatever turns no block of the map's. -/
theorem Seen.moved {w w' : World} {base mb : Nat} {d : ByteArray} {i : Nat} (h : Seen w base mb d i) {row : Option Nat} (hg : w.grownBy w' row) (hb : some mb ≠ row)
    (hrow : ∀ k, row = some k → k < base ∨ ∃ cells t, t ≠ 3 ∧ w.heap[k]? = some (.cells cells t (0, 0))) : Seen w' base mb d i := by
  obtain ⟨D, ho, hm, ha⟩ := h
  refine ⟨D, ho.kept hg hb ?_, hm, ha⟩
  intro es clock hes x hx
  obtain ⟨es', clock', hes', F, hs, hD, hbb, hlen, hap⟩ := ho
  obtain ⟨rfl, rfl⟩ : es' = es ∧ clock' = clock := by rw [hes'] at hes; simpa using hes
  obtain ⟨y, hy⟩ := F.reads x hx
  obtain ⟨z, hz, _⟩ := Go.WideElems.rd_val hy
  obtain ⟨zs, hoi, _⟩ := rowElem_inv hz
  cases hx' : x.val.ownBlock with
  | none => exact .inl rfl
  | some g =>
    refine .inr fun e => ?_
    have h1 := own_base hoi.1 g hx'
    obtain ⟨cells, h2⟩ := own_typed hoi.1 g hx'
    rcases hrow g e.symm with h3 | ⟨cells', t, h3, h4⟩
    · omega
    · rw [h2] at h4
      injection h4 with h4
      injection h4 with _ h4
      exact h3 h4.symm

theorem lits_inj {a b : List Int} (h : (lits .i64 a : List (DataW Unit)) = lits .i64 b) : a = b := by
  unfold lits at h
  exact (List.map_inj_right (fun x y hxy => by cases hxy; rfl)).1 h

theorem pairwise_eq {α β : Type} {f : α → β} : ∀ {l : List α}, l.Pairwise (fun x y => f x ≠ f y) → ∀ {x y : α}, x ∈ l → y ∈ l → f x = f y → x = y
  | [], _, _, _, hx, _, _ => by cases hx
  | a :: l, h, x, y, hx, hy, e => by
    obtain ⟨h1, h2⟩ := List.pairwise_cons.1 h
    rcases List.mem_cons.1 hx with ex | hx' <;> rcases List.mem_cons.1 hy with ey | hy'
    · rw [ex, ey]
    · subst ex; exact absurd e (h1 _ hy')
    · subst ey; exact absurd e.symm (h1 _ hx')
    · exact pairwise_eq h2 hx' hy' e

/-- A look-up hangs on the map's block alone. -/
theorem groups_look_any {w : World} {base mb n : Nat} {D : DataW Unit} (ho : w.ownsGroups Try.prog 9 base 3 .i64 mb n D) (key : ByteArray) (hk : key.size ≤ maxLen) {v : Value}
    (hv : (Instr.lookup 36 (.map (some mb)) (.string key) false).run Try.prog w = .ok v w) : ∀ W : World, W.heap[mb]? = w.heap[mb]? → (Instr.lookup 36 (.map (some mb)) (.string key) false).run Try.prog W = .ok v W := by
  obtain ⟨es, clock, hb, F, _⟩ := ho
  have F0 : Go.WideElems.Fit Try.prog 9 (fun _ => some ((.nil : DataW Unit), ([] : List MemPlace))) es clock := ⟨F.size, F.stamped, fun x hx => by
    obtain ⟨y, hy⟩ := F.reads x hx
    exact ⟨(y.1, .nil), by simp [Go.WideElems.rd, Go.WideElems.rd_key hy]⟩⟩
  have hkey := keyOf_string_mk (P := Try.prog) (k := 9) Try.underlying9 hk
  intro W hW
  have hbW : W.heap[mb]? = some (.map es clock) := hW.trans hb
  rcases Maps.fit_look false law9 Try.underlying36 (zero37 w) hb F0 hkey with ⟨h1, h2, _⟩ | ⟨e0, y, h1, h2, h3, _⟩ <;>
    rcases Maps.fit_look false law9 Try.underlying36 (zero37 W) hbW F0 hkey with ⟨k1, k2, _⟩ | ⟨e1, y', k1, k2, k3, _⟩
  · rw [hv] at h1
    simp at h1
    rw [k1, h1]; rfl
  · exact absurd k2 (h2 e1 k1)
  · exact absurd h2 (k2 e0 h1)
  · rw [hv] at h3
    simp at h3
    have hp := Maps.fit_apart law9 F0
    have e : e0 = e1 := by
      have hp' := (List.pairwise_map (R := fun p q : Lit × DataW Unit => p.1 ≠ q.1)).1 hp
      refine pairwise_eq (f := fun x => (Go.WideElems.rg Try.prog 9 (fun _ => some ((.nil : DataW Unit), ([] : List MemPlace))) x).1) hp' h1 k1 ?_
      show (Go.WideElems.rg Try.prog 9 _ e0).1 = (Go.WideElems.rg Try.prog 9 _ e1).1
      obtain ⟨y0, hy0⟩ := F0.reads e0 h1
      obtain ⟨y1, hy1⟩ := F0.reads e1 k1
      have m0 := Go.WideElems.rd_key hy0
      have m1 := Go.WideElems.rd_key hy1
      rw [h2] at m0
      rw [k2] at m1
      rw [Go.WideElems.rg_of hy0, Go.WideElems.rg_of hy1]
      exact Option.some.inj (m0.symm.trans m1)
    subst e
    rw [k3, h3]; rfl

/-- The look-up of three bytes, what the slice holds, and the way back behind an append. -/
theorem Seen.look {w : World} {base mb : Nat} {d : ByteArray} {i : Nat} (h : Seen w base mb d i) (hn : i < maxLen) (key : ByteArray) (hk : key.size ≤ maxLen) :
    ∃ v, (∀ W : World, W.heap[mb]? = w.heap[mb]? → (Instr.lookup 36 (.map (some mb)) (.string key) false).run Try.prog W = .ok v W) ∧ w.ownsInts base 3 .i64 v (ints (posOf d i key.data.toList)) ∧
      ∀ (w1 : World) (v' : Value), w.grownBy w1 v.ownBlock → w1.ownsInts base 3 .i64 v' (ints (posOf d i key.data.toList) ++ [(i : Int)]) → (v'.ownBlock = v.ownBlock ∨ ∃ g, v'.ownBlock = some g ∧ w.heap.size ≤ g) →
        i + 3 ≤ d.size → key3 d i = key.data.toList →
        ∃ w2, (Instr.mapUpdate 36 (.map (some mb)) (.string key) v').run Try.prog w1 = .ok () w2 ∧ Seen w2 base mb d (i + 1) ∧ w1.grownBy w2 (some mb) := by
  obtain ⟨D, ho, hm, ha⟩ := h
  obtain ⟨v, zs, hrun, hat, hoi, hzl, hback⟩ := ho.at law9 Try.underlying36 (zero37 w) hn (keyOf_string_mk (k := 9) Try.underlying9 hk)
  have hz : zs = ints (posOf d i key.data.toList) := by
    rcases hoi.datum (H := Unit) with ⟨h1, rfl⟩ | h1
    · rw [h1] at hat
      rcases ha key.data.toList with ⟨h2, h3⟩ | h2
      · rw [h3]; rfl
      · rw [hat] at h2; cases h2
    · rw [h1] at hat
      rcases ha key.data.toList with ⟨h2, h3⟩ | h2
      · rw [hat] at h2; cases h2
      · rw [hat] at h2
        injection h2 with h2
        exact lits_inj h2
  subst hz
  refine ⟨v, groups_look_any ho key hk hrun, hoi, fun w1 v' hg hown' hloc hsz hkey => ?_⟩
  have hl := posOf_len d i key.data.toList
  obtain ⟨w2, hrun2, hown2, hg2⟩ := hback w1 v' _ hg hown' (by simp [ints]; omega) hloc
  refine ⟨w2, hrun2, ⟨_, hown2, hm.put _ _, fun k' => ?_⟩, hg2⟩
  have hd := hown'.datum_pos (H := Unit) (by simp)
  by_cases e : k' = key.data.toList
  · subst e
    right
    rw [atKey_put_same hm (k := .string key.data.toList) (by trivial), hd, posOf_succ]
    simp [hkey, hsz, ints]
  · rw [atKey_put_other (by intro h; cases h; exact e rfl), posOf_succ]
    have : (key3 d i == k') = false := by rw [hkey]; simpa using fun h => e h.symm
    simp only [this, Bool.and_false, List.append_nil, Bool.false_eq_true, if_false]
    exact ha k'

/-- What the closure leaves as it was: all but the map, and the rows of ints from base on. -/
structure NFr (base mb : Nat) (w w' : World) : Prop where
  os : w'.os = w.os
  tape : w'.tape = w.tape
  output : w'.output = w.output
  size : w.heap.size ≤ w'.heap.size
  block : ∀ k, k < w.heap.size → k ≠ mb → (k < base ∨ ∃ cells t, t ≠ 3 ∧ w.heap[k]? = some (.cells cells t (0, 0))) → w'.heap[k]? = w.heap[k]?
theorem NFr.refl (base mb : Nat) (w : World) : NFr base mb w w := ⟨rfl, rfl, rfl, Nat.le_refl _, fun _ _ _ _ => rfl⟩
theorem NFr.trans {base mb : Nat} {a b c : World} (h : NFr base mb a b) (k : NFr base mb b c) : NFr base mb a c :=
  ⟨k.os.trans h.os, k.tape.trans h.tape, k.output.trans h.output, Nat.le_trans h.size k.size, fun i hi hm ht => by
    have h1 := h.block i hi hm ht
    refine (k.block i (Nat.lt_of_lt_of_le hi h.size) hm ?_).trans h1
    rcases ht with ht | ⟨cells, t, h2, h3⟩
    · exact .inl ht
    · exact .inr ⟨cells, t, h2, h1.trans h3⟩⟩
theorem NFr.grown {base mb : Nat} {w w' : World} {row : Option Nat} (hg : w.grownBy w' row) (hr : ∀ k, row = some k → k = mb ∨ (base ≤ k ∧ ∃ cells, w.heap[k]? = some (.cells cells 3 (0, 0)))) : NFr base mb w w' :=
  ⟨hg.os, hg.tape, hg.output, hg.size, fun i hi hm ht => hg.block i hi fun e => by
    rcases hr i e.symm with h1 | ⟨h1, cells, h2⟩
    · exact hm h1
    · rcases ht with ht | ⟨cells', t, h3, h4⟩
      · omega
      · rw [h2] at h4
        injection h4 with h4
        injection h4 with _ h4
        exact h3 h4.symm⟩
theorem NFr.drew {base mb : Nat} (w : World) : NFr base mb w w.drew := ⟨rfl, rfl, rfl, Nat.le_refl _, fun _ _ _ _ => rfl⟩
theorem NFr.alloc {base mb : Nat} (w : World) (o : Obj) : NFr base mb w (w.alloc o) := NFr.grown (row := none) (World.grownBy_alloc w _ _) (fun k e => by cases e)

end Go.Proofs.Ytlhgdkaaomdipaa.Tok
