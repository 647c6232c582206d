/- Layer 2 (huff): the rows of Limit: what stands behind the walk. No walk in this text. -/
import Derived.Test.YtpldapjcojjicaaRb
namespace Go.Proofs.Ytpldapjcojjicaa.B
open Go.RowKit Go.Shelf Go.Proofs.YtpldapjcojjicaaW.PrintWords Go.Proofs.YtpldapjcojjicaaW.PrintLast Go.Proofs.YtpldapjcojjicaaW.PrintMore
set_option linter.unusedVariables false
set_option linter.unusedSimpArgs false

/-- The mark that a loop over an iterator leaves. -/
def mark (D : Nat) : Deferred := { target := .collected D, args := #[] }
theorem leaves_marks {P : Program} {F : Fence} {n : Nat} {fn : Func} {tmps : Array Value} {R : Ending → World → Prop} : ∀ (Ds : List Nat) (w : World), (∀ D ∈ Ds, w.heap[D]? = some (.deferred (some []))) → Ds.Nodup →
    (∀ w', Fr (fun k => k ∈ Ds) w w' → ∃ v, (results fn tmps).run P w' = .ok v w' ∧ R (.returned v) w') → LeavesInM F n P fn tmps R (Ds.map mark) .returning w
  | [], w, _, _, h => h w (Fr.refl _ w)
  | D :: Ds, w, hd, hn, h => by
    refine ⟨by simp, .inl ⟨D, _, rfl, run_takeDeferred (hd D (List.mem_cons_self ..)), ?_⟩⟩
    have hn1 := List.nodup_cons.1 hn
    refine leaves_marks Ds _ (fun D' h' => ?_) hn1.2 (fun w' hw' => ?_)
    · have : D' ≠ D := fun e => hn1.1 (e ▸ h')
      exact (World.putObj_heap_other this).trans (hd D' (List.mem_cons_of_mem _ h'))
    · refine h w' ?_
      have h1 : Fr (fun k => k ∈ D :: Ds) w (w.putObj D (.deferred none)) := ⟨rfl, rfl, rfl, by simp, fun k _ hk => World.putObj_heap_other (fun e => hk (by subst e; exact List.mem_cons_self ..))⟩
      exact h1.then_ (hw'.mono fun k _ hk => List.mem_cons_of_mem _ hk)

/-- Neighbours put together. -/
def pairsOf (ts : List Tr) : List Tr := (List.range (ts.length / 2)).map fun k => .pair (ts[k * 2]?.getD default) (ts[k * 2 + 1]?.getD default)
/-- The rows: the coins; then coins and pairs of the row ahead, by rising count, of one count the coins ahead. -/
def rowsF (cs : List Tr) : Nat → List Tr
  | 0 => cs
  | m + 1 => isort Tr.wt (cs ++ pairsOf (rowsF cs m))
theorem pairs_len (ts : List Tr) : (pairsOf ts).length = ts.length / 2 := by simp [pairsOf]
theorem rows_len (cs : List Tr) : ∀ m, (rowsF cs m).length ≤ 2 * cs.length
  | 0 => by show cs.length ≤ _; omega
  | m + 1 => by
    have := rows_len cs m
    show (isort Tr.wt (cs ++ pairsOf (rowsF cs m))).length ≤ _
    rw [isort_length, List.length_append, pairs_len]
    omega
theorem rows_ge (cs : List Tr) : ∀ m, cs.length ≤ (rowsF cs m).length
  | 0 => Nat.le_refl _
  | m + 1 => by
    show _ ≤ (isort Tr.wt (cs ++ pairsOf (rowsF cs m))).length
    rw [isort_length, List.length_append]
    omega
/-- Enough stand in the last row. -/
theorem rows_enough (cs : List Tr) (L : Nat) (h : cs.length ≤ 2 ^ L) : ∀ m, m + 1 ≤ L → 2 * cs.length ≤ (rowsF cs m).length + 2 ^ (L - m)
  | 0, _ => by show _ ≤ cs.length + _; simp; omega
  | m + 1, hm => by
    have ih := rows_enough cs L h m (by omega)
    show _ ≤ (isort Tr.wt (cs ++ pairsOf (rowsF cs m))).length + _
    rw [isort_length, List.length_append, pairs_len]
    have e : L - m = (L - (m + 1)) + 1 := by omega
    rw [e, Nat.pow_succ] at ih
    omega
theorem pairs_mem {ts : List Tr} {t : Tr} (h : t ∈ pairsOf ts) : ∃ a b, a ∈ ts ∧ b ∈ ts ∧ t = .pair a b := by
  unfold pairsOf at h
  obtain ⟨k, hk, rfl⟩ := List.mem_map.1 h
  have hk := List.mem_range.1 hk
  refine ⟨_, _, ?_, ?_, rfl⟩
  · rw [List.getElem?_eq_getElem (by omega)]; exact List.getElem_mem _
  · rw [List.getElem?_eq_getElem (by omega)]; exact List.getElem_mem _
/-- What holds of all coins, and of a pair if it holds of its two, holds of all rows. -/
theorem rows_all {p : Tr → Prop} (cs : List Tr) (hc : ∀ t ∈ cs, p t) (hp : ∀ a b, p a → p b → p (.pair a b)) : ∀ m, ∀ t ∈ rowsF cs m, p t
  | 0 => hc
  | m + 1 => fun t ht => by
    have ht : t ∈ isort Tr.wt (cs ++ pairsOf (rowsF cs m)) := ht
    rw [isort_mem, List.mem_append] at ht
    rcases ht with ht | ht
    · exact hc t ht
    · obtain ⟨a, b, ha, hb, rfl⟩ := pairs_mem ht
      exact hp a b (rows_all cs hc hp m a ha) (rows_all cs hc hp m b hb)
theorem rows_bd (cs : List Tr) (M : Nat) (K : Int) (hc : ∀ t ∈ cs, 0 ≤ t.wt ∧ t.wt ≤ K ∧ t.leaves = 1) : ∀ m, ∀ t ∈ rowsF cs m, 0 ≤ t.wt ∧ t.wt ≤ K * (2 ^ m : Nat) ∧ t.leaves ≤ 2 ^ m
  | 0 => fun t ht => by have := hc t ht; simp; omega
  | m + 1 => fun t ht => by
    have ht : t ∈ isort Tr.wt (cs ++ pairsOf (rowsF cs m)) := ht
    rw [isort_mem, List.mem_append] at ht
    have hp : 0 < 2 ^ m := Nat.two_pow_pos m
    have e : K * ((2 ^ (m + 1) : Nat) : Int) = K * ((2 ^ m : Nat) : Int) * 2 := by rw [Nat.pow_succ]; push_cast; rw [Int.mul_assoc]
    rw [e, Nat.pow_succ]
    rcases ht with ht | ht
    · have h := hc t ht
      have h1 : K * 1 ≤ K * ((2 ^ m : Nat) : Int) := Int.mul_le_mul_of_nonneg_left (by omega) (by omega)
      generalize K * ((2 ^ m : Nat) : Int) = z at *
      omega
    · obtain ⟨a, b, ha, hb, rfl⟩ := pairs_mem ht
      have ia := rows_bd cs M K hc m a ha
      have ib := rows_bd cs M K hc m b hb
      generalize K * ((2 ^ m : Nat) : Int) = z at *
      simp only [Tr.wt, Tr.leaves]
      omega

/-- The pairs of a row's chunks. -/
theorem cks_pairs (rIts : List It) (rb R : Nat) : ∀ k, k * 2 < R + 2 → (cks R k).filterMap (mk? rIts rb) = (List.range (min k (R / 2))).map (mkPair rIts rb)
  | 0, _ => by simp [cks]
  | k + 1, h => by
    rw [cks_succ (by omega), List.filterMap_append, cks_pairs rIts rb R k (by omega)]
    by_cases c : k * 2 + 2 ≤ R
    · rw [show min (k + 1) (R / 2) = min k (R / 2) + 1 by omega, List.range_succ, List.map_append]
      simp [mk?, c, show min k (R / 2) = k by omega]
    · rw [show min (k + 1) (R / 2) = min k (R / 2) by omega]
      simp [mk?, c]
theorem Side.append {α β : Type} {R : α → β → Prop} : ∀ {l : List α} {m : List β} {l' : List α} {m' : List β}, Side R l m → Side R l' m' → Side R (l ++ l') (m ++ m')
  | _, _, _, _, .nil, k => k
  | _, _, _, _, .cons h t, k => .cons h (t.append k)
theorem side_map {α β : Type} {R : α → β → Prop} {f : Nat → α} {g : Nat → β} : ∀ (l : List Nat), (∀ k ∈ l, R (f k) (g k)) → Side R (l.map f) (l.map g)
  | [], _ => .nil
  | k :: l, h => .cons (h k (List.mem_cons_self ..)) (side_map l fun k hk => h k (List.mem_cons_of_mem _ hk))
theorem lies_two {W : World} {g : Nat} {its : List It} (h : Lies W g 0 its) (k : Nat) (hk : k * 2 + 1 < its.length) : Lies W g (k * 2 * 3) [its[k * 2]?.getD default, its[k * 2 + 1]?.getD default] := by
  have a := h.at (i := k * 2) (x := its[k * 2]?.getD default) (by rw [List.getElem?_eq_getElem (by omega)]; rfl)
  have b := h.at (i := k * 2 + 1) (x := its[k * 2 + 1]?.getD default) (by rw [List.getElem?_eq_getElem (by omega)]; rfl)
  simp only [Nat.zero_add] at a b
  generalize its[k * 2]?.getD default = y at *
  generalize its[k * 2 + 1]?.getD default = z at *
  intro j hj
  have hj : j < 6 := hj
  match j, hj with
  | 0, _ => exact a.1
  | 1, _ => exact a.2.1
  | 2, _ => exact a.2.2
  | 3, _ => have := b.1; rw [show (k * 2 + 1) * 3 = k * 2 * 3 + 3 by omega] at this; exact this
  | 4, _ => have := b.2.1; rw [show (k * 2 + 1) * 3 + 1 = k * 2 * 3 + 4 by omega] at this; exact this
  | 5, _ => have := b.2.2; rw [show (k * 2 + 1) * 3 + 1 + 1 = k * 2 * 3 + 5 by omega] at this; exact this
theorem side_pairs {R : Nat → Prop} {W : World} {rb : Nat} {rIts : List It} {ts : List Tr} (hS : Side (Rep R W) rIts ts) (hL : Lies W rb 0 rIts) (hR : R rb) (hs : rb < W.heap.size) :
    Side (Rep R W) ((List.range (rIts.length / 2)).map (mkPair rIts rb)) (pairsOf ts) := by
  unfold pairsOf
  rw [← hS.len]
  refine side_map _ fun k hk => ?_
  have hk := List.mem_range.1 hk
  obtain ⟨y, a, ey, ea, ra⟩ := hS.get (k * 2) (by omega)
  obtain ⟨z, b, ez, eb, rb'⟩ := hS.get (k * 2 + 1) (by omega)
  have h2 := lies_two hL k (by omega)
  rw [ey, ez] at h2
  rw [ea, eb]
  simp only [Option.getD_some] at h2 ⊢
  refine ⟨rb, k * 2 * 3, 2, ?_, hR, hs, y, z, h2, ra, rb'⟩
  unfold mkPair
  rw [ey, ez]
  simp only [Option.getD_some]
  rw [ra.key, rb'.key]
/-- What a row owns, lies. -/
theorem RI.lies {W : World} {base g c : Nat} {its : List It} (h : RI W base (.slice (some ⟨g, 0, none⟩) its.length c) its) : Lies W g 0 its ∧ base ≤ g ∧ g < W.heap.size ∧ its.length ≤ c := by
  rcases h.2 with ⟨h0, _⟩ | ⟨g', c', cur, hv, hb, hblk, h1, h2, h3, h4⟩
  · cases h0
  cases hv
  refine ⟨fun j hj => ?_, hb, blk_lt hblk, h1⟩
  rw [Nat.zero_add, blk_cell hblk j, ← h4, List.getElem?_take, if_pos hj, Array.getElem?_toList]
end Go.Proofs.Ytpldapjcojjicaa.B
