/- Stable sorting, in plain Lean: the merge's ends. No walk in this text. Joined of texts: Stable sorting, in plain Lean: what a rotation, a merge, a sort leave; a stable sort is one list. No walk in this text. Stable sorting, in plain Lean: the steps of Go's merge (swaps of rows, rotations, searches). No walk in this text. Stable sorting, in plain Lean: insertion, and rows of blocks. No walk in this text. -/
import Derived.Sort.LotA
set_option linter.unusedSectionVars false
namespace Go.Proofs.Ytpldapjcojjicaa.B
open Go.Sort
set_option linter.unusedVariables false
set_option linter.unusedSimpArgs false
variable {α : Type} [Inhabited α]

/-- Of each key the same elements in the same order. -/
def SEq (key : α → Int) (l l' : List α) : Prop := ∀ k : Int, l'.filter (fun x => key x == k) = l.filter (fun x => key x == k)
namespace SEq
variable {key : α → Int} {a b c d : List α}
theorem refl (l : List α) : SEq key l l := fun _ => rfl
theorem trans (h : SEq key a b) (k : SEq key b c) : SEq key a c := fun q => (k q).trans (h q)
theorem symm (h : SEq key a b) : SEq key b a := fun q => (h q).symm
theorem app (h : SEq key a b) (k : SEq key c d) : SEq key (a ++ c) (b ++ d) := fun q => by rw [List.filter_append, List.filter_append, h q, k q]
theorem swap (u v : List α) (h : ∀ x ∈ u, ∀ y ∈ v, key x ≠ key y) : SEq key (u ++ v) (v ++ u) := fun q => by
  rw [List.filter_append, List.filter_append]
  by_cases hu : u.filter (fun x => key x == q) = []
  · rw [hu]; simp
  · have hv : v.filter (fun x => key x == q) = [] := by
      rw [List.filter_eq_nil_iff]
      intro y hy hq
      obtain ⟨x, hx⟩ := List.exists_mem_of_ne_nil _ hu
      rw [List.mem_filter] at hx
      have h1 := beq_iff_eq.1 hx.2
      have h2 := beq_iff_eq.1 hq
      exact h x hx.1 y hy (h1.trans h2.symm)
    rw [hv]; simp
theorem mem (h : SEq key a b) (x : α) : x ∈ b ↔ x ∈ a := by
  have := h (key x)
  have e : x ∈ b.filter (fun y => key y == key x) ↔ x ∈ a.filter (fun y => key y == key x) := by rw [this]
  simpa [List.mem_filter] using e
end SEq

/-- A list by rising key. -/
def Srt (key : α → Int) (l : List α) : Prop := l.Pairwise (fun x y => key x ≤ key y)

theorem srt_head_filter {key : α → Int} : ∀ {x : α} {l : List α}, Srt key (x :: l) → (x :: l).filter (fun y => key y == key x) = x :: l.filter (fun y => key y == key x) := by
  intro x l _
  rw [List.filter_cons]
  simp
/-- Two lists by rising key, of each key the same elements in the same order: one list. -/
theorem srt_unique {key : α → Int} : ∀ (l l' : List α), Srt key l → Srt key l' → SEq key l l' → l' = l
  | [], [], _, _, _ => rfl
  | [], y :: l', _, _, h => by have := (h.mem y).1 (List.mem_cons_self ..); cases this
  | x :: l, [], _, _, h => by have := (h.mem x).2 (List.mem_cons_self ..); cases this
  | x :: l, y :: l', s, s', h => by
    have hx : x ∈ y :: l' := (h.mem x).2 (List.mem_cons_self ..)
    have hy : y ∈ x :: l := (h.mem y).1 (List.mem_cons_self ..)
    have s1 := List.pairwise_cons.1 s
    have s1' := List.pairwise_cons.1 s'
    have k1 : key y ≤ key x := by
      rcases List.mem_cons.1 hx with e | e
      · rw [e]; exact Int.le_refl _
      · exact s1'.1 x e
    have k2 : key x ≤ key y := by
      rcases List.mem_cons.1 hy with e | e
      · rw [e]; exact Int.le_refl _
      · exact s1.1 y e
    have hk : key x = key y := by omega
    have h0 := h (key x)
    rw [List.filter_cons, List.filter_cons] at h0
    simp only [hk, beq_self_eq_true, if_true] at h0
    have hxy : y = x := (List.cons.inj h0).1
    subst hxy
    have ht : SEq key l l' := fun q => by
      have hq := h q
      rw [List.filter_cons, List.filter_cons] at hq
      by_cases e : (key y == q) = true
      · rw [if_pos e, if_pos e] at hq
        exact (List.cons.inj hq).2
      · rw [if_neg e, if_neg e] at hq
        exact hq
    rw [srt_unique l l' s1.2 s1'.2 ht]

/-! ### Rows of an array -/
theorem getElem!_toList (d : Array α) (i : Nat) (h : i < d.size) : d[i]! = d.toList[i]'(by simpa using h) := by
  rw [getElem!_pos d i h, Array.getElem_toList]
def seg (d : Array α) (a b : Nat) : List α := (d.toList.drop a).take (b - a)
theorem seg_len (d : Array α) (a b : Nat) (h : b ≤ d.size) : (seg d a b).length = b - a := by
  unfold seg
  rw [List.length_take, List.length_drop, Array.length_toList]
  omega
theorem seg_get (d : Array α) (a b i : Nat) (h : b ≤ d.size) (hi : i < b - a) : (seg d a b)[i]? = some d[a + i]! := by
  unfold seg
  rw [List.getElem?_take, if_pos hi, List.getElem?_drop, getElem!_toList d (a + i) (by omega), List.getElem?_eq_getElem]
theorem seg_mem (d : Array α) (a b : Nat) (h : b ≤ d.size) (x : α) (hx : x ∈ seg d a b) : ∃ i, a ≤ i ∧ i < b ∧ d[i]! = x := by
  obtain ⟨i, hi⟩ := List.mem_iff_getElem?.1 hx
  have hl : i < (seg d a b).length := by
    rcases Nat.lt_or_ge i (seg d a b).length with h1 | h1
    · exact h1
    · rw [List.getElem?_eq_none h1] at hi; cases hi
  rw [seg_len d a b h] at hl
  rw [seg_get d a b i h hl] at hi
  exact ⟨a + i, by omega, by omega, Option.some.inj hi⟩
theorem seg_split (d : Array α) (a m b : Nat) (h1 : a ≤ m) (h2 : m ≤ b) (h : b ≤ d.size) : seg d a b = seg d a m ++ seg d m b := by
  refine List.ext_getElem? fun i => ?_
  rw [List.getElem?_append, seg_len d a m (by omega)]
  by_cases e1 : i < b - a
  · rw [seg_get d a b i h e1]
    split
    · rw [seg_get d a m i (by omega) (by omega)]
    · rw [seg_get d m b _ h (by omega)]
      congr 2
      omega
  · rw [List.getElem?_eq_none (by rw [seg_len d a b h]; omega), if_neg (by omega), List.getElem?_eq_none (by rw [seg_len d m b h]; omega)]
theorem seg_all (d : Array α) : seg d 0 d.size = d.toList := by
  unfold seg
  rw [List.drop_zero, Nat.sub_zero, ← Array.length_toList, List.take_length]

/-- One row turned into another: all but [a, b) as it was, of each key the same in the same order, and what lies in [a, b) lay there. -/
structure Stp (key : α → Int) (a b : Nat) (d d' : Array α) : Prop where
  size : d'.size = d.size
  seq : SEq key d.toList d'.toList
  out : ∀ i, (i < a ∨ b ≤ i) → d'[i]! = d[i]!
  frm : ∀ i, a ≤ i → i < b → ∃ j, a ≤ j ∧ j < b ∧ d'[i]! = d[j]!
namespace Stp
variable {key : α → Int} {a b a' b' : Nat} {d d' d'' : Array α}
theorem refl (d : Array α) : Stp key a b d d := ⟨rfl, SEq.refl _, fun _ _ => rfl, fun i h1 h2 => ⟨i, h1, h2, rfl⟩⟩
theorem trans (h : Stp key a b d d') (k : Stp key a b d' d'') : Stp key a b d d'' :=
  ⟨k.size.trans h.size, h.seq.trans k.seq, fun i hi => (k.out i hi).trans (h.out i hi), fun i h1 h2 => by
    obtain ⟨j, j1, j2, ej⟩ := k.frm i h1 h2
    obtain ⟨q, q1, q2, eq⟩ := h.frm j j1 j2
    exact ⟨q, q1, q2, ej.trans eq⟩⟩
theorem mono (h : Stp key a b d d') (ha : a' ≤ a) (hb : b ≤ b') : Stp key a' b' d d' :=
  ⟨h.size, h.seq, fun i hi => h.out i (by omega), fun i h1 h2 => by
    by_cases e : a ≤ i ∧ i < b
    · obtain ⟨j, j1, j2, ej⟩ := h.frm i e.1 e.2
      exact ⟨j, by omega, by omega, ej⟩
    · exact ⟨i, h1, h2, h.out i (by omega)⟩⟩
end Stp

/-- The rows [s, m) and [m, e) have changed places. -/
structure Rot (s m e : Nat) (d d' : Array α) : Prop where
  size : d'.size = d.size
  out : ∀ i, (i < s ∨ e ≤ i) → d'[i]! = d[i]!
  lo : ∀ i, s ≤ i → i < s + (e - m) → d'[i]! = d[i + (m - s)]!
  hi : ∀ i, s + (e - m) ≤ i → i < e → d'[i]! = d[i - (e - m)]!

theorem Rot.segs {s m e : Nat} {d d' : Array α} (h : Rot s m e d d') (h1 : s ≤ m) (h2 : m ≤ e) (h3 : e ≤ d.size) :
    d.toList = seg d 0 s ++ ((seg d s m ++ seg d m e) ++ seg d e d.size) ∧ d'.toList = seg d 0 s ++ ((seg d m e ++ seg d s m) ++ seg d e d.size) := by
  have hs := h.size
  constructor
  · rw [← seg_all d, seg_split d 0 s d.size (by omega) (by omega) (by omega), seg_split d s e d.size (by omega) (by omega) (by omega), seg_split d s m e h1 h2 h3]
  · rw [← seg_all d', seg_split d' 0 s d'.size (by omega) (by omega) (by omega), seg_split d' s e d'.size (by omega) (by omega) (by omega), seg_split d' s (s + (e - m)) e (by omega) (by omega) (by omega)]
    have e1 : seg d' 0 s = seg d 0 s := by
      refine List.ext_getElem? fun i => ?_
      by_cases c : i < s - 0
      · rw [seg_get _ _ _ _ (by omega) c, seg_get _ _ _ _ (by omega) c, h.out _ (by omega)]
      · rw [List.getElem?_eq_none (by rw [seg_len _ _ _ (by omega)]; omega), List.getElem?_eq_none (by rw [seg_len _ _ _ (by omega)]; omega)]
    have e2 : seg d' s (s + (e - m)) = seg d m e := by
      refine List.ext_getElem? fun i => ?_
      by_cases c : i < e - m
      · rw [seg_get _ _ _ _ (by omega) (by omega), seg_get _ _ _ _ (by omega) c, h.lo _ (by omega) (by omega)]
        congr 2; omega
      · rw [List.getElem?_eq_none (by rw [seg_len _ _ _ (by omega)]; omega), List.getElem?_eq_none (by rw [seg_len _ _ _ (by omega)]; omega)]
    have e3 : seg d' (s + (e - m)) e = seg d s m := by
      refine List.ext_getElem? fun i => ?_
      by_cases c : i < m - s
      · rw [seg_get _ _ _ _ (by omega) (by omega), seg_get _ _ _ _ (by omega) c, h.hi _ (by omega) (by omega)]
        congr 2; omega
      · rw [List.getElem?_eq_none (by rw [seg_len _ _ _ (by omega)]; omega), List.getElem?_eq_none (by rw [seg_len _ _ _ (by omega)]; omega)]
    have e4 : seg d' e d'.size = seg d e d.size := by
      refine List.ext_getElem? fun i => ?_
      by_cases c : i < d.size - e
      · rw [seg_get _ _ _ _ (by omega) (by omega), seg_get _ _ _ _ (by omega) c, h.out _ (by omega)]
      · rw [List.getElem?_eq_none (by rw [seg_len _ _ _ (by omega)]; omega), List.getElem?_eq_none (by rw [seg_len _ _ _ (by omega)]; omega)]
    rw [e1, e2, e3, e4]

/-- Two rows of which no key is in both change places. -/
theorem Rot.stp {key : α → Int} {s m e : Nat} {d d' : Array α} (h : Rot s m e d d') (h1 : s ≤ m) (h2 : m ≤ e) (h3 : e ≤ d.size)
    (hk : ∀ i j, s ≤ i → i < m → m ≤ j → j < e → key d[i]! ≠ key d[j]!) : Stp key s e d d' := by
  obtain ⟨e1, e2⟩ := h.segs h1 h2 h3
  refine ⟨h.size, ?_, h.out, fun i i1 i2 => ?_⟩
  · rw [e1, e2]
    refine (SEq.refl _).app ((SEq.swap _ _ ?_).app (SEq.refl _))
    intro x hx y hy
    obtain ⟨i, i1, i2, rfl⟩ := seg_mem d s m (by omega) x hx
    obtain ⟨j, j1, j2, rfl⟩ := seg_mem d m e (by omega) y hy
    exact hk i j i1 i2 j1 j2
  · by_cases c : i < s + (e - m)
    · exact ⟨_, by omega, by omega, h.lo i i1 c⟩
    · exact ⟨_, by omega, by omega, h.hi i (by omega) i2⟩

theorem rot_swp (d : Array α) (j : Nat) (hj : j + 1 < d.size) : Rot j (j + 1) (j + 2) d (swp d (j + 1) j) := by
  refine ⟨by rw [swp_size], fun i hi => ?_, fun i h1 h2 => ?_, fun i h1 h2 => ?_⟩
  · exact swp_other d _ _ i (by omega) (by omega)
  · obtain rfl : i = j := by omega
    rw [swp_right d _ _ (by omega)]
    congr 1
    omega
  · obtain rfl : i = j + 1 := by omega
    rw [swp_left d _ _ (by omega) (by omega)]
    congr 1
    omega
theorem rot_swp' (d : Array α) (j : Nat) (hj : j + 1 < d.size) : Rot j (j + 1) (j + 2) d (swp d j (j + 1)) := by
  refine ⟨by rw [swp_size], fun i hi => ?_, fun i h1 h2 => ?_, fun i h1 h2 => ?_⟩
  · exact swp_other d _ _ i (by omega) (by omega)
  · obtain rfl : i = j := by omega
    rw [swp_left d _ _ (by omega) (by omega)]
    congr 1
    omega
  · obtain rfl : i = j + 1 := by omega
    rw [swp_right d _ _ (by omega)]
    congr 1
    omega
/-- Two neighbours of different keys change places. -/
theorem stp_swp {key : α → Int} {a b : Nat} (d : Array α) (j : Nat) (ha : a ≤ j) (hb : j + 2 ≤ b) (hs : b ≤ d.size) (hk : key d[j]! ≠ key d[j + 1]!) : Stp key a b d (swp d (j + 1) j) :=
  ((rot_swp d j (by omega)).stp (by omega) (by omega) (by omega) (fun i i' h1 h2 h3 h4 => by
    obtain rfl : i = j := by omega
    obtain rfl : i' = i + 1 := by omega
    exact hk)).mono ha hb
theorem stp_swp' {key : α → Int} {a b : Nat} (d : Array α) (j : Nat) (ha : a ≤ j) (hb : j + 2 ≤ b) (hs : b ≤ d.size) (hk : key d[j]! ≠ key d[j + 1]!) : Stp key a b d (swp d j (j + 1)) :=
  ((rot_swp' d j (by omega)).stp (by omega) (by omega) (by omega) (fun i i' h1 h2 h3 h4 => by
    obtain rfl : i = j := by omega
    obtain rfl : i' = i + 1 := by omega
    exact hk)).mono ha hb
end Go.Proofs.Ytpldapjcojjicaa.B

namespace Go.Proofs.Ytpldapjcojjicaa.B
open Go.Sort
set_option linter.unusedVariables false
set_option linter.unusedSimpArgs false
variable {α : Type} [Inhabited α]

theorem ix (d : Array α) {i j : Nat} (h : i = j) : d[i]! = d[j]! := by rw [h]

/-- The rows [a, a + n) and [b, b + n) have changed places. -/
structure SwR (a b n : Nat) (d d' : Array α) : Prop where
  size : d'.size = d.size
  lo : ∀ i, a ≤ i → i < a + n → d'[i]! = d[i + (b - a)]!
  hi : ∀ i, b ≤ i → i < b + n → d'[i]! = d[i - (b - a)]!
  out : ∀ i, (i < a ∨ a + n ≤ i) → (i < b ∨ b + n ≤ i) → d'[i]! = d[i]!
theorem SwR.zero (a b : Nat) (d : Array α) : SwR a b 0 d d := ⟨rfl, fun i h1 h2 => by omega, fun i h1 h2 => by omega, fun _ _ _ => rfl⟩
theorem SwR.step {a b n : Nat} {d d' : Array α} (h : SwR a b n d d') (hab : a + n < b) (hb : b + n < d.size) : SwR a b (n + 1) d (swp d' (a + n) (b + n)) := by
  have hs := h.size
  have g := fun k => swp_get d' (i := a + n) (j := b + n) (by omega) (by omega) k
  refine ⟨by rw [swp_size]; exact hs, fun i h1 h2 => ?_, fun i h1 h2 => ?_, fun i h1 h2 => ?_⟩
  · by_cases e : i = a + n
    · subst e
      rw [swp_left _ _ _ (by omega) (by omega), h.out _ (by omega) (by omega)]
      exact ix d (by omega)
    · rw [swp_other _ _ _ _ e (by omega)]
      exact h.lo i h1 (by omega)
  · by_cases e : i = b + n
    · subst e
      rw [swp_right _ _ _ (by omega), h.out _ (by omega) (by omega)]
      exact ix d (by omega)
    · rw [swp_other _ _ _ _ (by omega) e]
      exact h.hi i h1 (by omega)
  · rw [swp_other _ _ _ _ (by omega) (by omega)]
    exact h.out i (by omega) (by omega)

/-- What is left of a rotation. -/
structure RotC (a m b i j : Nat) (d dk : Array α) : Prop where
  size : dk.size = d.size
  to : ∀ d' : Array α, Rot (m - i) m (m + j) dk d' → Rot a m b d d'
theorem RotC.start (a m b : Nat) (d : Array α) (h1 : a ≤ m) (h2 : m ≤ b) : RotC a m b (m - a) (b - m) d d :=
  ⟨rfl, fun d' h => by
    have e1 : m - (m - a) = a := by omega
    have e2 : m + (b - m) = b := by omega
    rwa [e1, e2] at h⟩
theorem RotC.gt {a m b i j : Nat} {d dk d1 : Array α} (h : RotC a m b i j d dk) (hij : j < i) (him : i ≤ m) (hs : SwR (m - i) m j dk d1) : RotC a m b (i - j) j d d1 := by
  refine ⟨hs.size.trans h.size, fun d' r => h.to d' ⟨r.size.trans hs.size, fun t ht => ?_, fun t h1 h2 => ?_, fun t h1 h2 => ?_⟩⟩
  · rw [r.out t (by omega), hs.out t (by omega) (by omega)]
  · rw [r.out t (by omega), hs.lo t (by omega) (by omega)]
  · by_cases c : t < m - (i - j) + (m + j - m)
    · rw [r.lo t (by omega) c, hs.hi _ (by omega) (by omega)]
      exact ix dk (by omega)
    · rw [r.hi t (by omega) (by omega), hs.out _ (by omega) (by omega)]
theorem RotC.lt {a m b i j : Nat} {d dk d1 : Array α} (h : RotC a m b i j d dk) (hij : i < j) (him : i ≤ m) (hs : SwR (m - i) (m + j - i) i dk d1) : RotC a m b i (j - i) d d1 := by
  refine ⟨hs.size.trans h.size, fun d' r => h.to d' ⟨r.size.trans hs.size, fun t ht => ?_, fun t h1 h2 => ?_, fun t h1 h2 => ?_⟩⟩
  · rw [r.out t (by omega), hs.out t (by omega) (by omega)]
  · by_cases c : t < m - i + (m + (j - i) - m)
    · rw [r.lo t (by omega) c, hs.out _ (by omega) (by omega)]
    · by_cases c2 : t < m + (j - i)
      · rw [r.hi t (by omega) c2, hs.lo _ (by omega) (by omega)]
        exact ix dk (by omega)
      · omega
  · rw [r.out t (by omega), hs.hi t (by omega) (by omega)]
    exact ix dk (by omega)
theorem RotC.eq {a m b i : Nat} {d dk d1 : Array α} (h : RotC a m b i i d dk) (him : i ≤ m) (hs : SwR (m - i) m i dk d1) : Rot a m b d d1 := by
  refine h.to d1 ⟨hs.size, fun t ht => hs.out t (by omega) (by omega), fun t h1 h2 => ?_, fun t h1 h2 => ?_⟩
  · rw [hs.lo t (by omega) (by omega)]
  · rw [hs.hi t (by omega) (by omega)]
    exact ix dk (by omega)

/-- By rising key from a up to b. -/
def SrtOn (key : α → Int) (d : Array α) (a b : Nat) : Prop := ∀ i j, a ≤ i → i < j → j < b → key d[i]! ≤ key d[j]!
theorem SrtOn.le {key : α → Int} {d : Array α} {a b : Nat} (h : SrtOn key d a b) (i j : Nat) (h1 : a ≤ i) (h2 : i ≤ j) (h3 : j < b) : key d[i]! ≤ key d[j]! := by
  by_cases e : i = j
  · subst e; exact Int.le_refl _
  · exact h i j h1 (by omega) h3
theorem SrtOn.mono {key : α → Int} {d : Array α} {a b a' b' : Nat} (h : SrtOn key d a b) (ha : a ≤ a') (hb : b' ≤ b) : SrtOn key d a' b' := fun i j h1 h2 h3 => h i j (by omega) h2 (by omega)
theorem SrtOn.one {key : α → Int} {d : Array α} {a b : Nat} (h : b ≤ a + 1) : SrtOn key d a b := fun i j h1 h2 h3 => by omega
theorem SrtOn.eq {key : α → Int} {d d' : Array α} {a b : Nat} (h : SrtOn key d a b) (he : ∀ i, a ≤ i → i < b → d'[i]! = d[i]!) : SrtOn key d' a b := fun i j h1 h2 h3 => by
  rw [he i h1 (by omega), he j (by omega) h3]
  exact h i j h1 h2 h3
theorem SrtOn.list {key : α → Int} {d : Array α} (h : SrtOn key d 0 d.size) : Srt key d.toList := by
  unfold Srt
  rw [List.pairwise_iff_getElem]
  intro i j hi hj hij
  rw [Array.length_toList] at hi hj
  have := h i j (by omega) hij hj
  rwa [getElem!_toList d i hi, getElem!_toList d j hj] at this

/-! ### The search in the general case -/
/-- s .. r is what is left of [lo, hi). -/
structure Srch (key : α → Int) (d : Array α) (lo hi p s r : Nat) : Prop where
  l1 : lo ≤ s
  l2 : s ≤ r
  l3 : r ≤ hi
  below : ∀ c, lo ≤ c → c < s → key d[c]! ≤ key d[p - c]!
  above : ∀ c, r ≤ c → c < hi → key d[p - c]! < key d[c]!
theorem Srch.start (key : α → Int) (d : Array α) (lo hi p : Nat) (h : lo ≤ hi) : Srch key d lo hi p lo hi :=
  ⟨Nat.le_refl _, h, Nat.le_refl _, fun c h1 h2 => by omega, fun c h1 h2 => by omega⟩
/-- Where the search goes: the row of which the code seeks the place. -/
structure Sym (a m b mid lo hi : Nat) : Prop where
  am : a < m
  mb : m < b
  hmid : mid = (a + b) / 2
  hlo : lo = if mid < m then mid + m - b else a
  hhi : hi = if mid < m then mid else m
theorem Sym.facts {a m b mid lo hi : Nat} (h : Sym a m b mid lo hi) : a ≤ lo ∧ lo ≤ hi ∧ hi ≤ mid ∧ hi ≤ m ∧ a ≤ mid ∧ mid < b ∧ (∀ c, lo ≤ c → c < hi → m ≤ mid + m - 1 - c ∧ mid + m - 1 - c < b ∧ a ≤ c ∧ c < m) := by
  obtain ⟨am, mb, rfl, rfl, rfl⟩ := h
  split
  · refine ⟨by omega, by omega, by omega, by omega, by omega, by omega, fun c h1 h2 => ⟨by omega, by omega, by omega, by omega⟩⟩
  · refine ⟨by omega, by omega, by omega, by omega, by omega, by omega, fun c h1 h2 => ⟨by omega, by omega, by omega, by omega⟩⟩
theorem Srch.left {key : α → Int} {d : Array α} {a m b mid lo hi p s r c : Nat} (h : Srch key d lo hi p s r) (y : Sym a m b mid lo hi) (hp : p = mid + m - 1) (h1 : SrtOn key d a m) (h2 : SrtOn key d m b)
    (c1 : s ≤ c) (c2 : c < r) (ht : ¬ key d[p - c]! < key d[c]!) : Srch key d lo hi p (c + 1) r := by
  have f := y.facts
  have l1 := h.l1; have l2 := h.l2; have l3 := h.l3
  refine ⟨by omega, by omega, h.l3, fun t t1 t2 => ?_, h.above⟩
  have ft := f.2.2.2.2.2.2 t t1 (by omega)
  have fc := f.2.2.2.2.2.2 c (by omega) (by omega)
  have g1 := h1.le t c ft.2.2.1 (by omega) fc.2.2.2
  have g2 := h2.le (p - c) (p - t) (by omega) (by omega) (by omega)
  omega
theorem Srch.right {key : α → Int} {d : Array α} {a m b mid lo hi p s r c : Nat} (h : Srch key d lo hi p s r) (y : Sym a m b mid lo hi) (hp : p = mid + m - 1) (h1 : SrtOn key d a m) (h2 : SrtOn key d m b)
    (c1 : s ≤ c) (c2 : c < r) (ht : key d[p - c]! < key d[c]!) : Srch key d lo hi p s c := by
  have f := y.facts
  have l1 := h.l1; have l2 := h.l2; have l3 := h.l3
  refine ⟨h.l1, c1, by omega, h.below, fun t t1 t2 => ?_⟩
  have ft := f.2.2.2.2.2.2 t (by omega) (by omega)
  have fc := f.2.2.2.2.2.2 c (by omega) (by omega)
  have g1 := h1.le c t fc.2.2.1 (by omega) ft.2.2.2
  have g2 := h2.le (p - t) (p - c) (by omega) (by omega) (by omega)
  omega
/-- What the search has found: all of [start, m) above all of [m, e). -/
theorem Srch.apart {key : α → Int} {d : Array α} {a m b mid lo hi p s : Nat} (h : Srch key d lo hi p s s) (y : Sym a m b mid lo hi) (hp : p = mid + m - 1) (h1 : SrtOn key d a m) (h2 : SrtOn key d m b) :
    ∀ i j, s ≤ i → i < m → m ≤ j → j < mid + m - s → key d[j]! < key d[i]! := by
  intro i j i1 i2 j1 j2
  have f := y.facts
  have l1 := h.l1; have l3 := h.l3
  by_cases e : s < hi
  · have fs := f.2.2.2.2.2.2 s l1 e
    have g := h.above s (Nat.le_refl _) e
    have g1 := h1.le s i (by omega) i1 i2
    have g2 := h2.le j (p - s) j1 (by omega) (by omega)
    omega
  · obtain ⟨am, mb, hmid, hlo, hhi⟩ := y
    split at hhi <;> omega
theorem Srch.ends {key : α → Int} {d : Array α} {a m b mid lo hi p s : Nat} (h : Srch key d lo hi p s s) (y : Sym a m b mid lo hi) : a ≤ s ∧ s ≤ m ∧ s ≤ mid ∧ m ≤ mid + m - s ∧ mid ≤ mid + m - s ∧ mid + m - s ≤ b := by
  have f := y.facts
  have l1 := h.l1; have l3 := h.l3
  obtain ⟨am, mb, hmid, hlo, hhi⟩ := y
  split at hlo <;> rename_i hc
  · rw [if_pos hc] at hhi
    omega
  · rw [if_neg hc] at hhi
    omega
/-- Behind the rotation: four rows by rising key; all up to mid below all from mid on. -/
theorem Srch.rows {key : α → Int} {d d1 : Array α} {a m b mid lo hi p s : Nat} (h : Srch key d lo hi p s s) (y : Sym a m b mid lo hi) (hp : p = mid + m - 1) (h1 : SrtOn key d a m) (h2 : SrtOn key d m b)
    (r : Rot s m (mid + m - s) d d1) : SrtOn key d1 a s ∧ SrtOn key d1 s mid ∧ SrtOn key d1 mid (mid + m - s) ∧ SrtOn key d1 (mid + m - s) b ∧ (∀ i j, a ≤ i → i < mid → mid ≤ j → j < b → key d1[i]! ≤ key d1[j]!) := by
  have e := h.ends y
  have ap := h.apart y hp h1 h2
  have f := y.facts
  have l1 := h.l1; have l3 := h.l3
  have am := y.am; have mb := y.mb
  have o : ∀ i, (i < s ∨ mid + m - s ≤ i) → d1[i]! = d[i]! := r.out
  have lo1 : ∀ i, s ≤ i → i < mid → d1[i]! = d[i + (m - s)]! := fun i i1 i2 => r.lo i i1 (by omega)
  have hi1 : ∀ i, mid ≤ i → i < mid + m - s → d1[i]! = d[i - (mid - s)]! := fun i i1 i2 => (r.hi i (by omega) i2).trans (ix d (by omega))
  refine ⟨fun i j i1 ij j1 => ?_, fun i j i1 ij j1 => ?_, fun i j i1 ij j1 => ?_, fun i j i1 ij j1 => ?_, fun i j i1 i2 j1 j2 => ?_⟩
  · rw [o i (by omega), o j (by omega)]
    exact h1 i j i1 ij (by omega)
  · rw [lo1 i i1 (by omega), lo1 j (by omega) j1]
    exact h2 _ _ (by omega) (by omega) (by omega)
  · rw [hi1 i i1 (by omega), hi1 j (by omega) j1]
    exact h1 _ _ (by omega) (by omega) (by omega)
  · rw [o i (by omega), o j (by omega)]
    exact h2 i j (by omega) ij (by omega)
  · by_cases c1 : i < s
    · rw [o i (by omega)]
      by_cases c2 : j < mid + m - s
      · rw [hi1 j j1 c2]
        exact h1 _ _ i1 (by omega) (by omega)
      · rw [o j (by omega)]
        have g := h.below (s - 1) (by
          obtain ⟨am, mb, hmid, hlo, hhi⟩ := y
          split at hlo <;> omega) (by omega)
        have g1 := h1.le i (s - 1) i1 (by omega) (by omega)
        have g2 := h2.le (p - (s - 1)) j (by omega) (by omega) j2
        omega
    · rw [lo1 i (by omega) i2]
      by_cases c2 : j < mid + m - s
      · rw [hi1 j j1 c2]
        have := ap (j - (mid - s)) (i + (m - s)) (by omega) (by omega) (by omega) (by omega)
        omega
      · rw [o j (by omega)]
        exact h2 _ _ (by omega) (by omega) j2
/-- Both halves sorted: the whole. -/
theorem sym_join {key : α → Int} {d1 d2 d3 : Array α} {a b mid : Nat} (hx : ∀ i j, a ≤ i → i < mid → mid ≤ j → j < b → key d1[i]! ≤ key d1[j]!)
    (s2 : Stp key a mid d1 d2) (o2 : SrtOn key d2 a mid) (s3 : Stp key mid b d2 d3) (o3 : SrtOn key d3 mid b) : SrtOn key d3 a b := by
  intro i j i1 ij j1
  by_cases c1 : j < mid
  · rw [s3.out i (by omega), s3.out j (by omega)]
    exact o2 i j i1 ij c1
  · by_cases c2 : mid ≤ i
    · exact o3 i j c2 ij j1
    · obtain ⟨i', x1, x2, x3⟩ := s2.frm i i1 (by omega)
      obtain ⟨j', y1, y2, y3⟩ := s3.frm j (by omega) j1
      rw [s3.out i (by omega), x3, y3, s2.out j' (by omega)]
      exact hx i' j' x1 x2 y1 y2

/-! ### One element laid into a row -/
theorem Rot.refl1 (s m : Nat) (d : Array α) : Rot s m m d d := ⟨rfl, fun _ _ => rfl, fun i h1 h2 => by omega, fun i h1 h2 => ix d (by omega)⟩
theorem Rot.refl2 (m e : Nat) (d : Array α) : Rot m m e d d := ⟨rfl, fun _ _ => rfl, fun i h1 h2 => ix d (by omega), fun i h1 h2 => by omega⟩
/-- The element at a has gone up to k; one further. -/
theorem Rot.up {a k : Nat} {d dk : Array α} (h : Rot a (a + 1) (k + 1) d dk) (hak : a ≤ k) (hk : k + 1 < d.size) : Rot a (a + 1) (k + 2) d (swp dk k (k + 1)) := by
  have hs := h.size
  refine ⟨by rw [swp_size]; exact hs, fun i hi => ?_, fun i h1 h2 => ?_, fun i h1 h2 => ?_⟩
  · rw [swp_other _ _ _ _ (by omega) (by omega)]
    exact h.out i (by omega)
  · by_cases e : i = k
    · subst e
      rw [swp_left _ _ _ (by omega) (by omega), h.out _ (by omega)]
      exact ix d (by omega)
    · rw [swp_other _ _ _ _ e (by omega)]
      exact h.lo i h1 (by omega)
  · obtain rfl : i = k + 1 := by omega
    rw [swp_right _ _ _ (by omega), h.hi k (by omega) (by omega)]
    exact ix d (by omega)
theorem Rot.up_at {a k : Nat} {d dk : Array α} (h : Rot a (a + 1) (k + 1) d dk) (hak : a ≤ k) : dk[k]! = d[a]! := (h.hi k (by omega) (by omega)).trans (ix d (by omega))
/-- The element at m has gone down to k; one further. -/
theorem Rot.down {m k : Nat} {d dk : Array α} (h : Rot (k + 1) m (m + 1) d dk) (hkm : k + 1 ≤ m) (hm : m < d.size) : Rot k m (m + 1) d (swp dk (k + 1) k) := by
  have hs := h.size
  refine ⟨by rw [swp_size]; exact hs, fun i hi => ?_, fun i h1 h2 => ?_, fun i h1 h2 => ?_⟩
  · rw [swp_other _ _ _ _ (by omega) (by omega)]
    exact h.out i (by omega)
  · obtain rfl : i = k := by omega
    rw [swp_right _ _ _ (by omega), h.lo (i + 1) (by omega) (by omega)]
    exact ix d (by omega)
  · by_cases e : i = k + 1
    · subst e
      rw [swp_left _ _ _ (by omega) (by omega), h.out k (by omega)]
      exact ix d (by omega)
    · rw [swp_other _ _ _ _ e (by omega), h.hi i (by omega) (by omega)]
/-- The search for the place of the one at a in the row [m, b). -/
structure SrU (key : α → Int) (d : Array α) (a m b i j : Nat) : Prop where
  l1 : m ≤ i
  l2 : i ≤ j
  l3 : j ≤ b
  below : ∀ c, m ≤ c → c < i → key d[c]! < key d[a]!
  above : ∀ c, j ≤ c → c < b → key d[a]! ≤ key d[c]!
theorem SrU.start (key : α → Int) (d : Array α) (a m b : Nat) (h : m ≤ b) : SrU key d a m b m b := ⟨Nat.le_refl _, h, Nat.le_refl _, fun c h1 h2 => by omega, fun c h1 h2 => by omega⟩
theorem SrU.left {key : α → Int} {d : Array α} {a m b i j c : Nat} (h : SrU key d a m b i j) (h2 : SrtOn key d m b) (c1 : i ≤ c) (c2 : c < j) (ht : key d[c]! < key d[a]!) : SrU key d a m b (c + 1) j := by
  have l1 := h.l1; have l2 := h.l2; have l3 := h.l3
  refine ⟨by omega, by omega, h.l3, fun t t1 t2 => ?_, h.above⟩
  have g2 := h2.le t c (by omega) (by omega) (by omega)
  omega
theorem SrU.right {key : α → Int} {d : Array α} {a m b i j c : Nat} (h : SrU key d a m b i j) (h2 : SrtOn key d m b) (c1 : i ≤ c) (c2 : c < j) (ht : ¬ key d[c]! < key d[a]!) : SrU key d a m b i c := by
  have l1 := h.l1; have l2 := h.l2; have l3 := h.l3
  refine ⟨h.l1, c1, by omega, h.below, fun t t1 t2 => ?_⟩
  have g2 := h2.le c t (by omega) (by omega) (by omega)
  omega
theorem SrU.done {key : α → Int} {d d' : Array α} {a b i : Nat} (h : SrU key d a (a + 1) b i i) (h2 : SrtOn key d (a + 1) b) (hb : b ≤ d.size) (r : Rot a (a + 1) i d d') : Stp key a b d d' ∧ SrtOn key d' a b := by
  have l1 := h.l1; have l3 := h.l3
  refine ⟨(r.stp (by omega) l1 (by omega) (fun x y x1 x2 y1 y2 => ?_)).mono (Nat.le_refl _) l3, fun x y x1 xy y1 => ?_⟩
  · obtain rfl : x = a := by omega
    have := h.below y y1 y2
    omega
  · by_cases c1 : y < i - 1
    · rw [r.lo x x1 (by omega), r.lo y (by omega) (by omega)]
      exact h2 _ _ (by omega) (by omega) (by omega)
    · by_cases c2 : y = i - 1
      · rw [r.lo x x1 (by omega), r.hi y (by omega) (by omega)]
        have := h.below (x + (a + 1 - a)) (by omega) (by omega)
        rw [ix d (show y - (i - (a + 1)) = a by omega)]
        omega
      · rw [r.out y (by omega)]
        by_cases c3 : x < i - 1
        · rw [r.lo x x1 (by omega)]
          exact h2 _ _ (by omega) (by omega) y1
        · by_cases c4 : x = i - 1
          · rw [r.hi x (by omega) (by omega), ix d (show x - (i - (a + 1)) = a by omega)]
            exact h.above y (by omega) y1
          · rw [r.out x (by omega)]
            exact h2 _ _ (by omega) xy y1
/-- The search for the place of the one at m in the row [a, m). -/
structure SrD (key : α → Int) (d : Array α) (a m i j : Nat) : Prop where
  l1 : a ≤ i
  l2 : i ≤ j
  l3 : j ≤ m
  below : ∀ c, a ≤ c → c < i → key d[c]! ≤ key d[m]!
  above : ∀ c, j ≤ c → c < m → key d[m]! < key d[c]!
theorem SrD.start (key : α → Int) (d : Array α) (a m : Nat) (h : a ≤ m) : SrD key d a m a m := ⟨Nat.le_refl _, h, Nat.le_refl _, fun c h1 h2 => by omega, fun c h1 h2 => by omega⟩
theorem SrD.left {key : α → Int} {d : Array α} {a m i j c : Nat} (h : SrD key d a m i j) (h2 : SrtOn key d a m) (c1 : i ≤ c) (c2 : c < j) (ht : ¬ key d[m]! < key d[c]!) : SrD key d a m (c + 1) j := by
  have l1 := h.l1; have l2 := h.l2; have l3 := h.l3
  refine ⟨by omega, by omega, h.l3, fun t t1 t2 => ?_, h.above⟩
  have g2 := h2.le t c (by omega) (by omega) (by omega)
  omega
theorem SrD.right {key : α → Int} {d : Array α} {a m i j c : Nat} (h : SrD key d a m i j) (h2 : SrtOn key d a m) (c1 : i ≤ c) (c2 : c < j) (ht : key d[m]! < key d[c]!) : SrD key d a m i c := by
  have l1 := h.l1; have l2 := h.l2; have l3 := h.l3
  refine ⟨h.l1, c1, by omega, h.below, fun t t1 t2 => ?_⟩
  have g2 := h2.le c t (by omega) (by omega) (by omega)
  omega
theorem SrD.done {key : α → Int} {d d' : Array α} {a m i : Nat} (h : SrD key d a m i i) (h2 : SrtOn key d a m) (hb : m + 1 ≤ d.size) (r : Rot i m (m + 1) d d') : Stp key a (m + 1) d d' ∧ SrtOn key d' a (m + 1) := by
  have l1 := h.l1; have l3 := h.l3
  refine ⟨(r.stp l3 (by omega) hb (fun x y x1 x2 y1 y2 => ?_)).mono l1 (Nat.le_refl _), fun x y x1 xy y1 => ?_⟩
  · obtain rfl : y = m := by omega
    have := h.above x x1 x2
    omega
  · by_cases c1 : y < i
    · rw [r.out x (by omega), r.out y (by omega)]
      exact h2 _ _ x1 xy (by omega)
    · by_cases c2 : y = i
      · rw [r.out x (by omega), r.lo y (by omega) (by omega), ix d (show y + (m - i) = m by omega)]
        exact h.below x x1 (by omega)
      · rw [r.hi y (by omega) (by omega)]
        by_cases c3 : x < i
        · rw [r.out x (by omega)]
          exact h2 _ _ x1 (by omega) (by omega)
        · by_cases c4 : x = i
          · rw [r.lo x (by omega) (by omega), ix d (show x + (m - i) = m by omega)]
            have := h.above (y - (m + 1 - m)) (by omega) (by omega)
            omega
          · rw [r.hi x (by omega) (by omega)]
            exact h2 _ _ (by omega) (by omega) (by omega)
end Go.Proofs.Ytpldapjcojjicaa.B

namespace Go.Proofs.Ytpldapjcojjicaa.B
open Go.Sort
set_option linter.unusedVariables false
set_option linter.unusedSimpArgs false
variable {α : Type} [Inhabited α]

/-- [a, i] by rising key but for the place j; what lies at j is below all to its right. -/
structure InsR (key : α → Int) (a j i : Nat) (d : Array α) : Prop where
  rest : ∀ p q, a ≤ p → p < q → q ≤ i → p ≠ j → q ≠ j → key d[p]! ≤ key d[q]!
  right : ∀ q, j < q → q ≤ i → key d[j]! < key d[q]!
theorem InsR.start {key : α → Int} {a i : Nat} {d : Array α} (h : SrtOn key d a i) : InsR key a i i d := ⟨fun p q h1 h2 h3 h4 h5 => h p q h1 h2 (by omega), fun q h1 h2 => by omega⟩
theorem InsR.stop {key : α → Int} {a j i : Nat} {d : Array α} (h : InsR key a j i d) (hs : j ≤ a ∨ ¬ key d[j]! < key d[j - 1]!) : SrtOn key d a (i + 1) := by
  intro p q h1 h2 h3
  by_cases hq : q = j
  · subst hq
    rcases hs with hs | hs
    · omega
    · by_cases hp : p = q - 1
      · subst hp; omega
      · have := h.rest p (q - 1) h1 (by omega) (by omega) (by omega) (by omega)
        omega
  · by_cases hp : p = j
    · subst hp
      have := h.right q h2 (by omega)
      omega
    · exact h.rest p q h1 h2 (by omega) hp hq
theorem InsR.step {key : α → Int} {a j i : Nat} {d : Array α} (h : InsR key a (j + 1) i d) (hl : key d[j + 1]! < key d[j]!) (haj : a ≤ j) (hji : j + 1 ≤ i) (hsz : j + 1 < d.size) : InsR key a j i (swp d (j + 1) j) := by
  have g := swp_get d hsz (show j < d.size by omega)
  constructor
  · intro p q h1 h2 h3 hp hq
    rw [g, g]
    rw [if_neg hq, if_neg hp]
    by_cases hq1 : q = j + 1
    · rw [if_pos hq1, if_neg (by omega)]
      have := h.rest p j h1 (by omega) (by omega) (by omega) (by omega)
      omega
    · rw [if_neg hq1]
      by_cases hp1 : p = j + 1
      · rw [if_pos hp1]
        exact h.rest j q (by omega) (by omega) h3 (by omega) hq1
      · rw [if_neg hp1]
        exact h.rest p q h1 h2 h3 hp1 hq1
  · intro q h1 h2
    rw [g, g, if_pos rfl, if_neg (by omega)]
    by_cases hq1 : q = j + 1
    · rw [if_pos hq1]; exact hl
    · rw [if_neg hq1]
      exact h.right q (by omega) h2

/-- From a on: blocks of bs, each by rising key. -/
inductive Blk (key : α → Int) (d : Array α) (n bs : Nat) : Nat → Prop
  | done (a : Nat) (h : n ≤ a) : Blk key d n bs a
  | step (a : Nat) (h : a < n) (hs : SrtOn key d a (min (a + bs) n)) (hb : Blk key d n bs (a + bs)) : Blk key d n bs a
theorem Blk.eq {key : α → Int} {d d' : Array α} {n bs a : Nat} (h : Blk key d n bs a) (he : ∀ i, a ≤ i → d'[i]! = d[i]!) : Blk key d' n bs a := by
  induction h with
  | done a h => exact .done a h
  | step a h hs hb ih => exact .step a h (hs.eq fun i i1 _ => he i i1) (ih fun i i1 => he i (by omega))
theorem Blk.head {key : α → Int} {d : Array α} {n bs a : Nat} (h : Blk key d n bs a) (ha : a < n) : SrtOn key d a (min (a + bs) n) ∧ Blk key d n bs (a + bs) := by
  cases h with
  | done _ h => omega
  | step _ h hs hb => exact ⟨hs, hb⟩
theorem Blk.all {key : α → Int} {d : Array α} {n bs : Nat} (h : Blk key d n bs 0) (hn : n ≤ bs) : SrtOn key d 0 n := by
  by_cases e : 0 < n
  · exact (h.head e).1.mono (Nat.le_refl _) (by omega)
  · exact SrtOn.one (by omega)
/-- Up to a the blocks are done. -/
def PreB (key : α → Int) (n bs a : Nat) (dk : Array α) : Prop := ∀ d' : Array α, (∀ i, i < a → d'[i]! = dk[i]!) → Blk key d' n bs a → Blk key d' n bs 0
theorem PreB.start (key : α → Int) (n bs : Nat) (d : Array α) : PreB key n bs 0 d := fun _ _ h => h
theorem PreB.step {key : α → Int} {n bs a : Nat} {dk d1 : Array α} (h : PreB key n bs a dk) (s : Stp key a (a + bs) dk d1) (o : SrtOn key d1 a (a + bs)) (hn : a + bs ≤ n) (hbs : 0 < bs) : PreB key n bs (a + bs) d1 :=
  fun d' he hb => h d' (fun i hi => (he i (by omega)).trans (s.out i (by omega))) (.step a (by omega) ((o.mono (Nat.le_refl _) (by omega)).eq fun i i1 i2 => he i (by omega)) hb)
theorem PreB.last {key : α → Int} {n bs a : Nat} {dk d1 : Array α} (h : PreB key n bs a dk) (s : Stp key a n dk d1) (o : SrtOn key d1 a n) (hn : n ≤ a + bs) : Blk key d1 n bs 0 := by
  refine h d1 (fun i hi => s.out i (by omega)) ?_
  by_cases e : a < n
  · exact .step a e (o.mono (Nat.le_refl _) (by omega)) (.done _ hn)
  · exact .done a (by omega)
theorem PreB.end_ {key : α → Int} {n bs a : Nat} {dk : Array α} (h : PreB key n (2 * bs) a dk) (k : Blk key dk n bs a) (hn : n ≤ a + bs) : Blk key dk n (2 * bs) 0 := by
  by_cases e : a < n
  · exact h.last (Stp.refl dk) ((k.head e).1.mono (Nat.le_refl _) (by omega)) (by omega)
  · exact h dk (fun _ _ => rfl) (.done a (by omega))
/-- Two neighbouring blocks. -/
theorem Blk.two {key : α → Int} {d : Array α} {n bs a : Nat} (h : Blk key d n bs a) (hm : a + bs < n) (hbs : 0 < bs) : SrtOn key d a (a + bs) ∧ SrtOn key d (a + bs) (min (a + bs + bs) n) ∧ Blk key d n bs (a + bs + bs) := by
  obtain ⟨h1, h2⟩ := h.head (by omega)
  obtain ⟨h3, h4⟩ := h2.head hm
  exact ⟨h1.mono (Nat.le_refl _) (by omega), h3, h4⟩

/-- What a stable sort leaves. -/
theorem sort_list {key : α → Int} {d d' : Array α} (s : SEq key d.toList d'.toList) (o : SrtOn key d' 0 d'.size) (l : List α) (hl : Srt key l) (hs : SEq key d.toList l) : d'.toList = l :=
  (srt_unique l d'.toList hl o.list (hs.symm.trans s))
end Go.Proofs.Ytpldapjcojjicaa.B

namespace Go.Proofs.Ytpldapjcojjicaa.B
open Go.Sort
set_option linter.unusedVariables false
set_option linter.unusedSimpArgs false
variable {α : Type} [Inhabited α]
variable {key : α → Int} {d d1 d2 d3 : Array α} {a m b mid lo hi p s : Nat}
/-- What the code knows behind the rotation. -/
structure SymAt (key : α → Int) (a m b mid s : Nat) (d d1 : Array α) : Prop where
  ends : a ≤ s ∧ s ≤ m ∧ s ≤ mid ∧ m ≤ mid + m - s ∧ mid ≤ mid + m - s ∧ mid + m - s ≤ b
  h0 : a ≤ mid ∧ mid < b
  stp : Stp key a b d d1
  r1 : SrtOn key d1 a s
  r2 : SrtOn key d1 s mid
  r3 : SrtOn key d1 mid (mid + m - s)
  r4 : SrtOn key d1 (mid + m - s) b
  x : ∀ i j, a ≤ i → i < mid → mid ≤ j → j < b → key d1[i]! ≤ key d1[j]!
theorem Srch.at (h : Srch key d lo hi p s s) (y : Sym a m b mid lo hi) (hp : p = mid + m - 1) (h1 : SrtOn key d a m) (h2 : SrtOn key d m b) (hb : b ≤ d.size) (r : Rot s m (mid + m - s) d d1) : SymAt key a m b mid s d d1 := by
  have e := h.ends y
  have f := y.facts
  have ap := h.apart y hp h1 h2
  obtain ⟨r1, r2, r3, r4, x⟩ := h.rows y hp h1 h2 r
  refine ⟨e, ⟨by omega, by omega⟩, (r.stp (by omega) (by omega) (by omega) fun i j i1 i2 j1 j2 => ?_).mono (by omega) (by omega), r1, r2, r3, r4, x⟩
  have := ap i j i1 i2 j1 (by omega)
  omega
theorem Srch.at0 (h : Srch key d lo hi p s s) (y : Sym a m b mid lo hi) (hp : p = mid + m - 1) (h1 : SrtOn key d a m) (h2 : SrtOn key d m b) (hb : b ≤ d.size) (hn : ¬ (s < m ∧ m < mid + m - s)) : SymAt key a m b mid s d d := by
  have e := h.ends y
  refine h.at y hp h1 h2 hb ?_
  by_cases c : s = m
  · subst c; exact Rot.refl2 _ _ d
  · have : mid + m - s = m := by omega
    rw [this]; exact Rot.refl1 _ _ d
theorem SymAt.lo0 (h : SymAt key a m b mid s d d1) (hn : ¬ (a < s ∧ s < mid)) : SrtOn key d1 a mid := by
  have e := h.ends
  by_cases c : s = a
  · subst c; exact h.r2
  · have : s = mid := by omega
    subst this; exact h.r1
theorem SymAt.hi1 (h : SymAt key a m b mid s d d1) (s2 : Stp key a mid d1 d2) : SrtOn key d2 mid (mid + m - s) ∧ SrtOn key d2 (mid + m - s) b :=
  ⟨h.r3.eq fun i i1 _ => s2.out i (by omega), h.r4.eq fun i i1 _ => s2.out i (by have := h.ends; omega)⟩
theorem SymAt.hi0 (h : SymAt key a m b mid s d d1) (s2 : Stp key a mid d1 d2) (hn : ¬ (mid < mid + m - s ∧ mid + m - s < b)) : SrtOn key d2 mid b := by
  have e := h.ends
  have g := h.hi1 s2
  by_cases c : mid + m - s = mid
  · have := g.2; rwa [c] at this
  · have c2 : mid + m - s = b := by omega
    have := g.1; rwa [c2] at this
theorem SymAt.fin (h : SymAt key a m b mid s d d1) (s2 : Stp key a mid d1 d2) (o2 : SrtOn key d2 a mid) (s3 : Stp key mid b d2 d3) (o3 : SrtOn key d3 mid b) : Stp key a b d d3 ∧ SrtOn key d3 a b := by
  have e := h.h0
  exact ⟨(h.stp.trans (s2.mono (Nat.le_refl _) (by omega))).trans (s3.mono (by omega) (Nat.le_refl _)), sym_join h.x s2 o2 s3 o3⟩
end Go.Proofs.Ytpldapjcojjicaa.B
