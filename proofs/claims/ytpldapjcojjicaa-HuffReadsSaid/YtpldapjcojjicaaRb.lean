/- Layer 2 (huff): the round of Limit's loop over the chunks of a row. -/
import Derived.Test.YtpldapjcojjicaaCi
import Derived.Test.YtpldapjcojjicaaBr
namespace Go.Proofs.Ytpldapjcojjicaa.B
open Go.RowKit Go.Shelf Go.Proofs.YtpldapjcojjicaaW.PrintWords Go.Proofs.YtpldapjcojjicaaW.PrintLast Go.Proofs.YtpldapjcojjicaaW.PrintMore
set_option linter.unusedVariables false
set_option linter.unusedSimpArgs false
attribute [local go_sem] Oper.semAt_some

def rfBody : Code → Option Code
  | .rangeFunc _ _ _ b => some b
  | .seq a b => match rfBody a with
    | some c => some c
    | none => rfBody b
  | .block _ c => rfBody c
  | .loop c => rfBody c
  | .cond _ a b => match rfBody a with
    | some c => some c
    | none => rfBody b
  | _ => none
/-- The body of the loop over the chunks. -/
noncomputable def limBody : Code := (rfBody (Try.f40.body.getD .skip)).getD .skip

/-- The pair of a chunk. -/
def mkPair (rIts : List It) (rb k : Nat) : It := ⟨(rIts[k * 2]?.getD default).n + (rIts[k * 2 + 1]?.getD default).n, 0, some ⟨rb, k * 2 * 3, none⟩, 2, 2⟩
def mk? (rIts : List It) (rb : Nat) {r : Nat} (x : Ck r) : Option It := if x.1 * 2 + 2 ≤ r then some (mkPair rIts rb x.1) else none

theorem cell_al {W : World} {a : Addr} {v : Value} (o : Obj) (h : W.cell? a = some v) : (W.alloc o).cell? a = some v := by
  have hl := World.block_lt_of_cell? W _ h
  exact (World.cell?_of_block (heap_alloc_old W o hl)).trans h
theorem cell_grown_ {W W1 : World} {a : Addr} {v : Value} {row : Option Nat} (hg : W.grownBy W1 row) (h : W.cell? a = some v) (hne : some a.block ≠ row) : W1.cell? a = some v := by
  have hl := World.block_lt_of_cell? W _ h
  exact (World.cell?_of_block (hg.block a.block hl hne)).trans h
theorem cell_blk {W W1 : World} {a : Addr} {v : Value} (h : W.cell? a = some v) (e : W1.heap[a.block]? = W.heap[a.block]?) : W1.cell? a = some v :=
  (World.cell?_of_block e).trans h

/-- What a round leaves: the new pair laid behind the others. -/
theorem RI.put {W1 : World} {base g c n : Nat} {its : List It} {zs : List Value} (hz : zs.length = 3) (h : W1.ownsRow base 87 3 (.slice (some ⟨g, 0, none⟩) (n + 1) c) (n + 1) (flat its ++ zs)) (hn : its.length = n) (x : It) :
    RI (((W1.setCell ⟨g, n * 3, none⟩ (.int .i64 x.n)).setCell ⟨g, n * 3 + 1, none⟩ (.int .i64 x.s)).setCell ⟨g, n * 3 + 1 + 1, none⟩ (.slice x.p x.l x.c)) base (.slice (some ⟨g, 0, none⟩) (n + 1) c) (its ++ [x]) := by
  rcases h.2 with ⟨h0, _⟩ | ⟨g', c', cur, hv, hb, hblk, h1, h2, h3, h4⟩
  · cases h0
  cases hv
  subst hn
  have e : (its ++ [x]).length = its.length + 1 := by simp
  unfold RI
  rw [e]
  refine ⟨by rw [flat_len, e], .inr ⟨g, c, _, rfl, hb, blk_set (blk_set (blk_set hblk _ _) _ _) _ _, h1, h2, by simp [h3], ?_⟩⟩
  have hc : (its.length + 1) * 3 ≤ cur.size := by rw [h3]; exact Nat.mul_le_mul_right 3 h1
  rw [flat_append]
  refine List.ext_getElem? fun j => ?_
  have hj4 : (cur.toList.take ((its.length + 1) * 3))[j]? = (flat its ++ zs)[j]? := by rw [h4]
  rw [List.getElem?_take] at hj4 ⊢
  have fl := flat_len its
  by_cases hj : j < (its.length + 1) * 3
  · rw [if_pos hj] at hj4 ⊢
    rw [Array.getElem?_toList] at hj4 ⊢
    simp only [Array.getElem?_setIfInBounds, Array.size_setIfInBounds]
    by_cases c1 : j < its.length * 3
    · rw [if_neg (by omega), if_neg (by omega), if_neg (by omega), hj4, List.getElem?_append_left (by omega), List.getElem?_append_left (by omega)]
    · rw [List.getElem?_append_right (by omega), fl]
      have : flat [x] = [.int .i64 x.n, .int .i64 x.s, .slice x.p x.l x.c] := rfl
      rw [this]
      by_cases c2 : j = its.length * 3
      · subst c2
        rw [if_neg (by omega), if_neg (by omega), if_pos rfl, if_pos (by omega)]
        simp
      · by_cases c3 : j = its.length * 3 + 1
        · subst c3
          rw [if_neg (by omega), if_pos rfl, if_pos (by omega), show its.length * 3 + 1 - its.length * 3 = 1 by omega]
          rfl
        · obtain rfl : j = its.length * 3 + 1 + 1 := by omega
          rw [if_pos rfl, if_pos (by omega), show its.length * 3 + 1 + 1 - its.length * 3 = 2 by omega]
          rfl
  · rw [if_neg hj, List.getElem?_eq_none (by simp [flat_len]; omega)]

/-- What holds between two rounds: the row that is made: the coins, and the pairs of the chunks that have come. -/
structure NI (B1 Bx bs bn rb R rcap : Nat) (W1 : World) (cIts rIts : List It) (pre : List (Ck R)) (W : World) (g c : Nat) (its : List It) : Prop where
  box : W.heap[Bx]? = some (.cells #[.slice (some ⟨g, 0, none⟩) its.length c] 85 (0, 0))
  own : RI W B1 (.slice (some ⟨g, 0, none⟩) its.length c) its
  its_ : its = cIts ++ pre.filterMap (mk? rIts rb)
  bs_ : W.heap[bs]? = some (.cells #[.slice (some ⟨rb, 0, none⟩) R rcap] 85 (0, 0))
  bn_ : W.heap[bn]? = some (.cells #[.int .i64 2] 3 (0, 0))
  bel : Below B1 W1 W
def NI' (B1 Bx bs bn rb R rcap : Nat) (W1 : World) (cIts rIts : List It) (pre : List (Ck R)) (W : World) : Prop := ∃ g c its, NI B1 Bx bs bn rb R rcap W1 cIts rIts pre W g c its
theorem NI.blk {B1 Bx bs bn rb R rcap : Nat} {W1 W : World} {cIts rIts : List It} {pre : List (Ck R)} {g c : Nat} {its : List It} (h : NI B1 Bx bs bn rb R rcap W1 cIts rIts pre W g c its) : ∃ cur, W.heap[g]? = some (.cells cur 87 (0, 0)) ∧ B1 ≤ g := by
  rcases h.own.2 with ⟨h0, _⟩ | ⟨g', c', cur, hv, hb, hblk, _⟩
  · cases h0
  cases hv
  exact ⟨cur, hblk, hb⟩
theorem NI.own_from {B1 Bx bs bn rb R rcap B : Nat} {W1 : World} {cIts rIts : List It} (hB : B1 ≤ B) : OwnFrom B (NI' B1 Bx bs bn rb R rcap W1 cIts rIts) := by
  rintro pre W W' row ⟨g, c, its, h⟩ hg hr
  have keep : ∀ k (cs : Array Value) e, W.heap[k]? = some (Obj.cells cs e (0, 0)) → W'.heap[k]? = some (Obj.cells cs e (0, 0)) := fun k cs e hk =>
    (hg.block k (blk_lt hk) (fun e' => by
      obtain ⟨_, o, ho, hc⟩ := hr k e'.symm
      rw [hk] at ho; cases ho; cases hc)).trans hk
  refine ⟨g, c, its, ⟨keep _ _ _ h.box, ?_, h.its_, keep _ _ _ h.bs_, keep _ _ _ h.bn_, ?_⟩⟩
  · rcases h.own.2 with ⟨h0, _⟩ | ⟨g', c', cur, hv, hb, hblk, r⟩
    · cases h0
    exact ⟨h.own.1, .inr ⟨g', c', cur, hv, hb, keep _ _ _ hblk, r⟩⟩
  · obtain ⟨cur, hblk, hge⟩ := h.blk
    have := blk_lt hblk
    exact h.bel.grown hg (by omega) (fun k e => by have := (hr k e).1; omega)
/-- The end of a round. -/
theorem ni_end {B1 Bx bs bn rb R rcap B g c g1 c1 : Nat} {W1 W w1 W3 : World} {cIts rIts its : List It} {pre : List (Ck R)} {x : Ck R} (h : NI B1 Bx bs bn rb R rcap W1 cIts rIts pre W g c its) (hb1 : Below B1 W1 w1) (hg1 : W.drew.grownBy w1 (Value.slice (some ⟨g, 0, none⟩) its.length c).ownBlock)
    (hat : (Value.slice (some ⟨g1, 0, none⟩) (its.length + 1) c1).ownBlock = (Value.slice (some ⟨g, 0, none⟩) its.length c).ownBlock ∨ ∃ b, (Value.slice (some ⟨g1, 0, none⟩) (its.length + 1) c1).ownBlock = some b ∧ W.drew.heap.size ≤ b)
    (hB : B1 ≤ Bx) (hW1 : B1 ≤ W1.heap.size) (hBbs : Bx ≠ bs) (hBbn : Bx ≠ bn) (p : It) (hp : mk? rIts rb x = some p)
    (f1 : ∃ W2, W2.heap[g1]? = W3.heap[g1]? ∧ RI W2 B1 (.slice (some ⟨g1, 0, none⟩) (its.length + 1) c1) (its ++ [p])) (f2 : W3.heap[Bx]? = some (.cells #[.slice (some ⟨g1, 0, none⟩) (its.length + 1) c1] 85 (0, 0)))
    (f3 : Fr (fun k => k = g1 ∨ k = Bx) w1 W3) (f4 : KeepsOthers w1 W3) :
    KeepsFrom B W W3 ∧ (W3.heap[bs]? = W.heap[bs]? ∧ W3.heap[bn]? = W.heap[bn]?) ∧ NI' B1 Bx bs bn rb R rcap W1 cIts rIts (pre ++ [x]) W3 := by
  obtain ⟨cur, hblk, hge⟩ := h.blk
  have e1 : ∀ k (cs : Array Value) e, W.heap[k]? = some (Obj.cells cs e (0, 0)) → e ≠ 87 → k ≠ Bx → W3.heap[k]? = W.heap[k]? := fun k cs e hk he hkB => by
    have hkg : k ≠ g := fun e' => by subst e'; rw [hblk] at hk; simp at hk; exact he hk.2.symm
    have hlt := blk_lt hk
    have hkg1 : k ≠ g1 := fun e' => by
      subst e'
      rcases hat with ha | ⟨b, ha, hb⟩
      · simp [Value.ownBlock] at ha; omega
      · simp [Value.ownBlock] at ha
        have : W.heap.size ≤ b := hb
        omega
    have h1 : w1.heap[k]? = W.heap[k]? := hg1.block k hlt (by simp [Value.ownBlock]; exact hkg)
    exact (f3.block k (Nat.lt_of_lt_of_le hlt hg1.size) (by rintro (e' | e') <;> contradiction)).trans h1
  have k1 := e1 bs _ _ h.bs_ (by decide) hBbs.symm
  have k2 := e1 bn _ _ h.bn_ (by decide) hBbn.symm
  have hbs := h.bel.size
  have hg1B : B1 ≤ g1 := by
    rcases hat with ha | ⟨b, ha, hb⟩
    · simp [Value.ownBlock] at ha; omega
    · simp [Value.ownBlock] at ha
      have : W.heap.size ≤ b := hb
      omega
  obtain ⟨W2, hw2, hr2⟩ := f1
  refine ⟨?_, ⟨k1, k2⟩, g1, c1, its ++ [p], ⟨by rw [f2]; simp, ?_, ?_, k1.trans h.bs_, k2.trans h.bn_, ?_⟩⟩
  · have a1 : KeepsOthers W W.drew := ⟨Nat.le_refl _, fun _ _ h _ => h⟩
    have a2 : KeepsOthers W.drew w1 := ⟨hg1.size, fun k o hk ho => (hg1.block k (Array.getElem?_eq_some_iff.1 hk).1 (fun e' => by
      simp [Value.ownBlock] at e'
      subst e'
      have : W.heap[k]? = some o := hk
      rw [hblk] at this; cases this; cases ho)).trans hk⟩
    exact ((a1.trans a2).trans f4).from B
  · rw [show (its ++ [p]).length = its.length + 1 by simp]
    refine own_move hr2 (fun k hk => ?_)
    simp [Value.ownBlock] at hk
    subst hk
    exact hw2.symm
  · rw [List.filterMap_append, h.its_]
    simp [hp]
  · exact hb1.trans (f3.to_below (fun k hk _ => by omega) (Nat.le_trans hW1 hb1.size))
set_option maxHeartbeats 4000000 in
set_option maxRecDepth 100000 in
theorem body_full (n l0 B1 Bx bs bn rb R rcap B g c : Nat) (W1 W : World) (cIts rIts its : List It) (pre : List (Ck R)) (x : Ck R) (hfull : x.1 * 2 + 2 ≤ R) (u0 u1 u2 u3 u4 u5 u6 u7 u8 u9 u10 u13 u14 u15 u16 u17 u18 u19 u20 u21 u22 u23 u24 u25 u26 u27 u28 u29 u30 u31 u32 u33 u34 u35 u36 u37 u38 u39 u40 u41 u42 u43 u44 u45 u46 u47 u48 u49 u50 u51 u52 u53 u54 u55 u56 u57 u58 u59 u60 u61 u62 u63 u64 u65 u66 u67 u68 u69 u70 u71 u72 u73 u74 u75 u76 u77 u78 u79 u80 u81 u82 u83 u84 u85 u86 u87 u88 u89 u90 u91 u92 u93 u94 u95 u96 u97 u98 u99 u100 u101 u102 u103 u104 u105 u106 u107 u108 : Value)
    (hNI : NI B1 Bx bs bn rb R rcap W1 cIts rIts pre W g c its) (hits : 0 < its.length) (hl : its.length ≤ 1000000) (hLr : Lies W1 rb 0 rIts) (hrb : rb < B1) (hR : rIts.length = R) (hn : ∀ k : Nat, 0 ≤ (rIts[k]?.getD default).n ∧ (rIts[k]?.getD default).n ≤ 1000000000000000000) (hBx : B1 ≤ Bx) (hW1 : B1 ≤ W1.heap.size) (hBbs : Bx ≠ bs) (hBbn : Bx ≠ bn) :
    limBody.wpIn (Fence.wide.inRound l0) n Try.prog (ownPostG B (fun W W' => W'.heap[bs]? = W.heap[bs]? ∧ W'.heap[bn]? = W.heap[bn]?) (NI' B1 Bx bs bn rb R rcap W1 cIts rIts) (fun _ _ _ => False) (pre ++ [x]) W) { tmps := #[u0, u1, u2, u3, u4, u5, u6, u7, u8, u9, u10, .pointer (some ⟨Bx, 0, none⟩), ckV rb R x.1, u13, u14, u15, u16, u17, u18, u19, u20, u21, u22, u23, u24, u25, u26, u27, u28, u29, u30, u31, u32, u33, u34, u35, u36, u37, u38, u39, u40, u41, u42, u43, u44, u45, u46, u47, u48, u49, u50, u51, u52, u53, u54, u55, u56, u57, u58, u59, u60, u61, u62, u63, u64, u65, u66, u67, u68, u69, u70, u71, u72, u73, u74, u75, u76, u77, u78, u79, u80, u81, u82, u83, u84, u85, u86, u87, u88, u89, u90, u91, u92, u93, u94, u95, u96, u97, u98, u99, u100, u101, u102, u103, u104, u105, u106, u107, u108], defers := [] } W := by
  obtain ⟨n0, hn0⟩ : ∃ n0, (rIts[x.1 * 2]?.getD default).n = n0 := ⟨_, rfl⟩
  obtain ⟨n1, hn1⟩ : ∃ n1, (rIts[x.1 * 2 + 1]?.getD default).n = n1 := ⟨_, rfl⟩
  have b0 := hn (x.1 * 2)
  have b1 := hn (x.1 * 2 + 1)
  rw [hn0] at b0
  rw [hn1] at b1
  have x1 := x.2
  have hLr2 := hLr.keep (hNI.bel.block rb hrb)
  have c0 : W.cell? ⟨rb, x.1 * 2 * 3, none⟩ = some (.int .i64 n0) := by
    have := (hLr2.at (i := x.1 * 2) (x := rIts[x.1 * 2]?.getD default) (by rw [List.getElem?_eq_getElem (by omega)]; rfl)).1
    rw [hn0, Nat.zero_add] at this
    exact this
  have c1 : W.cell? ⟨rb, x.1 * 2 * 3 + 3, none⟩ = some (.int .i64 n1) := by
    have := (hLr2.at (i := x.1 * 2 + 1) (x := rIts[x.1 * 2 + 1]?.getD default) (by rw [List.getElem?_eq_getElem (by omega)]; rfl)).1
    rw [hn1, Nat.zero_add, show (x.1 * 2 + 1) * 3 = x.1 * 2 * 3 + 3 by omega] at this
    exact this
  have cB : W.cell? ⟨Bx, 0, none⟩ = some (.slice (some ⟨g, 0, none⟩) its.length c) := (blk_cell hNI.box 0).trans rfl
  obtain ⟨cur, hblk, hge⟩ := hNI.blk
  have hgB : g ≠ Bx := fun e => by
    subst e
    have := hNI.box
    rw [hblk] at this
    simp at this
  have hgbs : g ≠ bs := fun e => by
    subst e
    have := hNI.bs_
    rw [hblk] at this
    simp at this
  have hgbn : g ≠ bn := fun e => by
    subst e
    have := hNI.bn_
    rw [hblk] at this
    simp at this
  have hown : Aside0 (W.drew.ownsRow B1 87 3 (.slice (some ⟨g, 0, none⟩) its.length c) its.length (flat its)) := ⟨hNI.own⟩
  have hbel : Aside0 (Below B1 W1 W.drew) := ⟨hNI.bel.drew⟩
  have hlen : Aside0 ((its.length + 1) * 40 ≤ 140737488355328) := ⟨by omega⟩
  have hB1 : Aside0 (B1 ≤ W.drew.heap.size) := ⟨Nat.le_trans hW1 hNI.bel.size⟩
  have hne0 : Aside0 (some Bx ≠ (Value.slice (some ⟨g, 0, none⟩) its.length c).ownBlock) := ⟨by simp [Value.ownBlock]; omega⟩
  have hne1 : Aside0 (some rb ≠ (Value.slice (some ⟨g, 0, none⟩) its.length c).ownBlock) := ⟨by simp [Value.ownBlock]; omega⟩
  have hmn : ckV rb R x.1 = .slice (some ⟨rb, x.1 * 2 * 3, none⟩) 2 2 := by
    unfold ckV
    rw [show min 2 (R - x.1 * 2) = 2 by omega]
  rw [hmn]
  have hn0 := Aside0.mk hn0
  have hn1 := Aside0.mk hn1
  have hNI := Aside0.mk hNI
  have hLr := Aside0.mk hLr
  have hblk := Aside0.mk hblk
  clear hn hLr2 hmn
  unfold limBody
  simp only [Try.f40, Option.getD_some, rfBody]
  gi_wp2
  have h0 : W.drew.cell? ⟨Bx, 0, none⟩ = some (.slice (some ⟨g, 0, none⟩) its.length c) := cB
  have h1 : W.drew.cell? ⟨rb, x.1 * 2 * 3, none⟩ = some (.int .i64 n0) := c0
  have h2 : W.drew.cell? ⟨rb, x.1 * 2 * 3 + 3, none⟩ = some (.int .i64 n1) := c1
  have hlt1 := eq_true (show (its.length : Int) < (its.length : Int) + 1 by omega)
  refine startIn_ (by rintro ⟨_, _, h⟩; exact h) (noDefer_of (by kernel_rfl)) (n := 18) (S := fun w' => w'.cell? ⟨Bx, 0, none⟩ = some (.slice (some ⟨g, 0, none⟩) its.length c) ∧ w'.cell? ⟨rb, x.1 * 2 * 3, none⟩ = some (.int .i64 n0) ∧ w'.cell? ⟨rb, x.1 * 2 * 3 + 3, none⟩ = some (.int .i64 n1)) (ds := [16, 17]) #[false, false, false, false, false, false, false, false, false, false, false, false, false, false, false, false, false, false] (by kernel_rfl) rfl rfl ⟨h0, h1, h2⟩ (fun hHeld => ?_)
  refine pure_ (i := 1) (N := some 81) (v := ?_) (a' := ?_) #[false, true, false, false, false, false, false, false, false, false, false, false, false, false, false, false, false, false] rfl rfl (by kernel_rfl) (fun _ _ _ h => h) (Or.inl ⟨by rfl, ?_⟩) ?_ ?_
  rotate_left
  · intro w'
    go_simp
    with_reducible rfl
  rotate_left
  · simp only [Act.put, List.setIfInBounds_toArray, List.set_cons_zero, List.set_cons_succ, i64_w, i32_w]
    rfl
  refine pure_ (i := 2) (N := some 82) (v := ?_) (a' := ?_) #[false, true, true, false, false, false, false, false, false, false, false, false, false, false, false, false, false, false] rfl rfl (by kernel_rfl) (fun _ _ _ h => h) (Or.inl ⟨by rfl, ?_⟩) ?_ ?_
  rotate_left
  · intro w'
    go_simp
    with_reducible rfl
  rotate_left
  · simp only [Act.put, List.setIfInBounds_toArray, List.set_cons_zero, List.set_cons_succ, i64_w, i32_w]
    rfl
  refine pure_ (i := 3) (N := some 83) (v := ?_) (a' := ?_) #[false, true, true, true, false, false, false, false, false, false, false, false, false, false, false, false, false, false] rfl rfl (by kernel_rfl) (fun _ _ _ h => h) (Or.inl ⟨by rfl, ?_⟩) ?_ ?_
  rotate_left
  · intro w'
    go_simp
    with_reducible rfl
  rotate_left
  · simp only [Act.put, List.setIfInBounds_toArray, List.set_cons_zero, List.set_cons_succ, i64_w, i32_w]
    rfl
  refine pure_ (i := 5) (N := some 85) (v := ?_) (a' := ?_) #[false, true, true, true, false, true, false, false, false, false, false, false, false, false, false, false, false, false] rfl rfl (by kernel_rfl) (fun _ _ _ h => h) (Or.inl ⟨by rfl, ?_⟩) ?_ ?_
  rotate_left
  · intro w'
    go_simp
    with_reducible rfl
  rotate_left
  · simp only [Act.put, List.setIfInBounds_toArray, List.set_cons_zero, List.set_cons_succ, i64_w, i32_w]
    rfl
  refine pure_ (i := 6) (N := some 86) (v := ?_) (a' := ?_) #[false, true, true, true, false, true, true, false, false, false, false, false, false, false, false, false, false, false] rfl rfl (by kernel_rfl) (fun _ _ _ h => h) (Or.inl ⟨by rfl, ?_⟩) ?_ ?_
  rotate_left
  · intro w'
    go_simp
    with_reducible rfl
  rotate_left
  · simp only [Act.put, List.setIfInBounds_toArray, List.set_cons_zero, List.set_cons_succ, i64_w, i32_w]
    rfl
  refine pure_ (i := 7) (N := some 87) (v := ?_) (a' := ?_) #[false, true, true, true, false, true, true, true, false, false, false, false, false, false, false, false, false, false] rfl rfl (by kernel_rfl) (fun _ _ _ h => h) (Or.inl ⟨by rfl, ?_⟩) ?_ ?_
  rotate_left
  · intro w'
    go_simp
    with_reducible rfl
  rotate_left
  · simp only [Act.put, List.setIfInBounds_toArray, List.set_cons_zero, List.set_cons_succ, i64_w, i32_w]
    rfl
  refine pure_ (i := 10) (N := some 90) (v := ?_) (a' := ?_) #[false, true, true, true, false, true, true, true, false, false, true, false, false, false, false, false, false, false] rfl rfl (by kernel_rfl) (fun _ _ _ h => h) (Or.inl ⟨by rfl, ?_⟩) ?_ ?_
  rotate_left
  · intro w'
    go_simp
    with_reducible rfl
  rotate_left
  · simp only [Act.put, List.setIfInBounds_toArray, List.set_cons_zero, List.set_cons_succ, i64_w, i32_w]
    rfl
  refine take_ (i := 0) (N := some 80) (v := ?_) (a' := ?_) #[true, true, true, true, false, true, true, true, false, false, true, false, false, false, false, false, false, false] rfl rfl (by kernel_rfl) (fun _ _ _ h => h) (Or.inl ⟨by rfl, ?_⟩) hHeld ?_ ?_
  rotate_left
  · rintro w' ⟨s0, s1, s2⟩
    go_simp
    with_reducible rfl
  rotate_left
  · simp only [Act.put, List.setIfInBounds_toArray, List.set_cons_zero, List.set_cons_succ, i64_w, i32_w]
    rfl
  refine pure_ (i := 12) (N := some 92) (v := ?_) (a' := ?_) #[true, true, true, true, false, true, true, true, false, false, true, false, true, false, false, false, false, false] rfl rfl (by kernel_rfl) (fun _ _ _ h => h) (Or.inl ⟨by rfl, ?_⟩) ?_ ?_
  rotate_left
  · intro w'
    go_simp
    with_reducible rfl
  rotate_left
  · simp only [Act.put, List.setIfInBounds_toArray, List.set_cons_zero, List.set_cons_succ, i64_w, i32_w]
    rfl
  refine take_ (i := 4) (N := some 84) (v := ?_) (a' := ?_) #[true, true, true, true, true, true, true, true, false, false, true, false, true, false, false, false, false, false] rfl rfl (by kernel_rfl) (fun _ _ _ h => h) (Or.inl ⟨by rfl, ?_⟩) hHeld ?_ ?_
  rotate_left
  · rintro w' ⟨s0, s1, s2⟩
    go_simp
    with_reducible rfl
  rotate_left
  · simp only [Act.put, List.setIfInBounds_toArray, List.set_cons_zero, List.set_cons_succ, i64_w, i32_w]
    rfl
  refine take_ (i := 8) (N := some 88) (v := ?_) (a' := ?_) #[true, true, true, true, true, true, true, true, true, false, true, false, true, false, false, false, false, false] rfl rfl (by kernel_rfl) (fun _ _ _ h => h) (Or.inl ⟨by rfl, ?_⟩) hHeld ?_ ?_
  rotate_left
  · rintro w' ⟨s0, s1, s2⟩
    go_simp
    with_reducible rfl
  rotate_left
  · simp only [Act.put, List.setIfInBounds_toArray, List.set_cons_zero, List.set_cons_succ, i64_w, i32_w]
    rfl
  refine pure_ (i := 9) (N := some 89) (v := ?_) (a' := ?_) #[true, true, true, true, true, true, true, true, true, true, true, false, true, false, false, false, false, false] rfl rfl (by kernel_rfl) (fun _ _ _ h => h) (Or.inl ⟨by rfl, ?_⟩) ?_ ?_
  rotate_left
  · intro w'
    go_simp
    with_reducible rfl
  rotate_left
  · simp only [Act.put, List.setIfInBounds_toArray, List.set_cons_zero, List.set_cons_succ, i64_w, i32_w]
    rfl
  refine pure_ (i := 11) (N := some 91) (v := ?_) (a' := ?_) #[true, true, true, true, true, true, true, true, true, true, true, true, true, false, false, false, false, false] rfl rfl (by kernel_rfl) (fun _ _ _ h => h) (Or.inl ⟨by rfl, ?_⟩) ?_ ?_
  rotate_left
  · intro w'
    go_simp
    with_reducible rfl
  rotate_left
  · simp only [Act.put, List.setIfInBounds_toArray, List.set_cons_zero, List.set_cons_succ, i64_w, i32_w]
    rfl
  refine one_ (i := 13) (N := some 93) #[true, true, true, true, true, true, true, true, true, true, true, true, true, true, false, false, false, false] rfl rfl (by kernel_rfl) (by decide) (fun K hK => ?_)
  refine value_ (w1 := ?_) (v := ?_) (by rfl) rfl ?_ ?_
  rotate_left 2
  · go_simp
    constructor
    · rfl
    · rfl
  refine hK.out _ _ ⟨cell_al _ h0, cell_al _ h1, cell_al _ h2⟩ (fun hHeld => ?_)
  clear hK K
  refine norm_ (a' := ?_) ?_ ?_
  rotate_left
  · show Act.put _ (some 93) _ = _
    simp only [Act.put, List.setIfInBounds_toArray, List.set_cons_zero, List.set_cons_succ, i64_w, i32_w]
    rfl
  refine one_ (i := 14) (N := some 94) #[true, true, true, true, true, true, true, true, true, true, true, true, true, true, true, false, false, false] rfl rfl (by kernel_rfl) (by decide) (fun K hK => ?_)
  refine step_append_cells (w0 := W1) B1 (by rfl) (.tmp 80) (.tmp 93) 85 87 (.agg #[.int .i64 0, .int .i64 0, .slice none 0 0]) 3 40 rfl Try.underlying85 info87 rfl (by decide) (by decide) (.slice (some ⟨g, 0, none⟩) its.length c) its.length (flat its) [.int .i64 0, .int .i64 0, .slice none 0 0] rfl rfl rfl (by simp [Value.oneCell']) hown.out hbel.out (by have := hB1.out; exact this) hlen.out ?_
  intro v1 w1 hown1 hb1 hg1 hat1
  obtain ⟨g1, cc1, rfl⟩ := ownsRow_succ hown1
  refine hK.out _ _ ⟨cell_grown_ hg1 h0 hne0.out, cell_grown_ hg1 h1 hne1.out, cell_grown_ hg1 h2 hne1.out⟩ (fun hHeld => ?_)
  clear hK K
  refine norm_ (a' := ?_) ?_ ?_
  rotate_left
  · show Act.put _ (some 94) _ = _
    simp only [Act.put, List.setIfInBounds_toArray, List.set_cons_zero, List.set_cons_succ, i64_w, i32_w]
    rfl
  refine pure_ (i := 15) (N := some 95) (v := ?_) (a' := ?_) #[true, true, true, true, true, true, true, true, true, true, true, true, true, true, true, true, false, false] rfl rfl (by kernel_rfl) (fun _ _ _ h => h) (Or.inl ⟨by rfl, ?_⟩) ?_ ?_
  rotate_left
  · intro w'
    go_simp
    with_reducible rfl
  rotate_left
  · simp only [Act.put, List.setIfInBounds_toArray, List.set_cons_zero, List.set_cons_succ, i64_w, i32_w]
    rfl
  have hblk1 : ∃ cur1, w1.heap[g1]? = some (.cells cur1 87 (0, 0)) ∧ (its.length + 1) * 3 ≤ cur1.size := by
    rcases hown1.2 with ⟨h0, _⟩ | ⟨g', c', cur', hv, hb, hbk, e1, e2, e3, e4⟩
    · cases h0
    cases hv
    exact ⟨cur', hbk, by rw [e3]; exact Nat.mul_le_mul_right 3 e1⟩
  obtain ⟨cur1, hbk1, hsz1⟩ := hblk1
  have box1 : w1.heap[Bx]? = some (.cells #[.slice (some ⟨g, 0, none⟩) its.length c] 85 (0, 0)) := (hg1.block Bx (blk_lt hNI.out.box) hne0.out).trans hNI.out.box
  have hg1B : g1 ≠ Bx := fun e => by
    subst e
    rw [hbk1] at box1
    simp at box1
  have hg1B' : Bx ≠ g1 := fun e => hg1B e.symm
  have cx : ∀ j, j < (its.length + 1) * 3 → ∃ v, w1.cell? ⟨g1, j, none⟩ = some v := fun j hj => ⟨cur1[j]'(by omega), (blk_cell hbk1 j).trans (Array.getElem?_eq_getElem (by omega))⟩
  obtain ⟨z0, k0⟩ := cx (its.length * 3) (by omega)
  obtain ⟨z1, k1⟩ := cx (its.length * 3 + 1) (by omega)
  obtain ⟨z2, k2⟩ := cx (its.length * 3 + 1 + 1) (by omega)
  have q0 := blk_frozen hbk1 (its.length * 3)
  have q1 := blk_frozen hbk1 (its.length * 3 + 1)
  have q2 := blk_frozen hbk1 (its.length * 3 + 1 + 1)
  have kB : w1.cell? ⟨Bx, 0, none⟩ = some (.slice (some ⟨g, 0, none⟩) its.length c) := (blk_cell box1 0).trans rfl
  have qB := blk_frozen box1 0
  clear cx
  have hbk1 := Aside0.mk hbk1
  have box1 := Aside0.mk box1
  have hown1 := Aside0.mk hown1
  have hg1 := Aside0.mk hg1
  have hat1 := Aside0.mk hat1
  clear h0 h1 h2 hHeld c0 c1 cB
  refine wpAnyLast_ready (rs := [16, 17]) (by kernel_rfl) (by simp) (AllReadyL.cons_last rfl (by decide) (fun K hK => ?_) (AllReadyL.cons_last rfl (by decide) (fun K hK => ?_) AllReadyL.nil))
  · skip
    refine skip_ (w1 := ?_) (by rfl) rfl ?_ ?_
    rotate_left
    · go_simp
      rfl
    refine hK.out _ _ ?_
    clear hK K
    refine last_ (i := 17) (N := none) #[true, true, true, true, true, true, true, true, true, true, true, true, true, true, true, true, true, true] rfl rfl (by kernel_rfl) (by decide) (fun K hK => ?_)
    refine skip_ (w1 := ?_) (by rfl) rfl ?_ ?_
    rotate_left
    · go_simp
      rfl
    refine hK.out _ _ ?_
    clear hK K
    refine done_ (by kernel_rfl) ?_
    have hw64 : wrap64 (n0 + n1) = n0 + n1 := w64' _ (by omega)
    rw [hw64]
    have hpair : mk? rIts rb x = some ⟨n0 + n1, 0, some ⟨rb, x.1 * 2 * 3, none⟩, 2, 2⟩ := by
      unfold mk? mkPair
      rw [if_pos hfull, hn0.out, hn1.out]
    show _ ∧ _
    refine ni_end hNI.out hb1 hg1.out hat1.out hBx hW1 hBbs hBbn _ hpair ?_ ?_ ?_ ?_
    · exact ⟨_, (Below.heap_setCell _ _ _ g1 hg1B).symm, RI.put rfl hown1.out rfl ⟨n0 + n1, 0, some ⟨rb, x.1 * 2 * 3, none⟩, 2, 2⟩⟩
    · have hb3 : (((w1.setCell ⟨g1, its.length * 3, none⟩ (.int .i64 (n0 + n1))).setCell ⟨g1, its.length * 3 + 1, none⟩ (.int .i64 0)).setCell ⟨g1, its.length * 3 + 2, none⟩ (.slice (some ⟨rb, x.1 * 2 * 3, none⟩) 2 2)).heap[Bx]? = some (.cells #[.slice (some ⟨g, 0, none⟩) its.length c] 85 (0, 0)) :=
        (Below.heap_setCell _ _ _ Bx hg1B').trans ((Below.heap_setCell _ _ _ Bx hg1B').trans ((Below.heap_setCell _ _ _ Bx hg1B').trans box1.out))
      exact (blk_set hb3 0 _).trans rfl
    · exact ((((Fr.refl _ w1).set_ _ _ (fun _ => .inl rfl)).set_ _ _ (fun _ => .inl rfl)).set_ _ _ (fun _ => .inl rfl)).set_ _ _ (fun _ => .inr rfl)
    · exact (((KeepsOthers.setCell w1 _ _).trans (KeepsOthers.setCell _ _ _)).trans (KeepsOthers.setCell _ _ _)).trans (KeepsOthers.setCell _ _ _)
  · skip
    refine skip_ (w1 := ?_) (by rfl) rfl ?_ ?_
    rotate_left
    · go_simp
      rfl
    refine hK.out _ _ ?_
    clear hK K
    refine last_ (i := 16) (N := none) #[true, true, true, true, true, true, true, true, true, true, true, true, true, true, true, true, true, true] rfl rfl (by kernel_rfl) (by decide) (fun K hK => ?_)
    refine skip_ (w1 := ?_) (by rfl) rfl ?_ ?_
    rotate_left
    · go_simp
      rfl
    refine hK.out _ _ ?_
    clear hK K
    refine done_ (by kernel_rfl) ?_
    have hw64 : wrap64 (n0 + n1) = n0 + n1 := w64' _ (by omega)
    rw [hw64]
    have hpair : mk? rIts rb x = some ⟨n0 + n1, 0, some ⟨rb, x.1 * 2 * 3, none⟩, 2, 2⟩ := by
      unfold mk? mkPair
      rw [if_pos hfull, hn0.out, hn1.out]
    show _ ∧ _
    refine ni_end hNI.out hb1 hg1.out hat1.out hBx hW1 hBbs hBbn _ hpair ?_ ?_ ?_ ?_
    · have hown2 : (w1.setCell ⟨Bx, 0, none⟩ (.slice (some ⟨g1, 0, none⟩) (its.length + 1) cc1)).ownsRow B1 87 3 (.slice (some ⟨g1, 0, none⟩) (its.length + 1) cc1) (its.length + 1) (flat its ++ [.int .i64 0, .int .i64 0, .slice none 0 0]) :=
        own_move hown1.out (fun k hk => by
          simp [Value.ownBlock] at hk
          subst hk
          exact Below.heap_setCell _ _ _ _ hg1B)
      exact ⟨_, rfl, RI.put rfl hown2 rfl ⟨n0 + n1, 0, some ⟨rb, x.1 * 2 * 3, none⟩, 2, 2⟩⟩
    · have hb3 : (w1.setCell ⟨Bx, 0, none⟩ (.slice (some ⟨g1, 0, none⟩) (its.length + 1) cc1)).heap[Bx]? = some (.cells #[.slice (some ⟨g1, 0, none⟩) (its.length + 1) cc1] 85 (0, 0)) := (blk_set box1.out 0 _).trans rfl
      exact (Below.heap_setCell _ _ _ Bx hg1B').trans ((Below.heap_setCell _ _ _ Bx hg1B').trans ((Below.heap_setCell _ _ _ Bx hg1B').trans hb3))
    · exact ((((Fr.refl _ w1).set_ _ _ (fun _ => .inr rfl)).set_ _ _ (fun _ => .inl rfl)).set_ _ _ (fun _ => .inl rfl)).set_ _ _ (fun _ => .inl rfl)
    · exact (((KeepsOthers.setCell w1 _ _).trans (KeepsOthers.setCell _ _ _)).trans (KeepsOthers.setCell _ _ _)).trans (KeepsOthers.setCell _ _ _)
set_option maxHeartbeats 1000000 in
set_option maxRecDepth 100000 in
theorem body_half (n l0 B1 Bx bs bn rb R rcap B g c : Nat) (W1 W : World) (cIts rIts its : List It) (pre : List (Ck R)) (x : Ck R) (hhalf : ¬ x.1 * 2 + 2 ≤ R) (u0 u1 u2 u3 u4 u5 u6 u7 u8 u9 u10 u13 u14 u15 u16 u17 u18 u19 u20 u21 u22 u23 u24 u25 u26 u27 u28 u29 u30 u31 u32 u33 u34 u35 u36 u37 u38 u39 u40 u41 u42 u43 u44 u45 u46 u47 u48 u49 u50 u51 u52 u53 u54 u55 u56 u57 u58 u59 u60 u61 u62 u63 u64 u65 u66 u67 u68 u69 u70 u71 u72 u73 u74 u75 u76 u77 u78 u79 u80 u81 u82 u83 u84 u85 u86 u87 u88 u89 u90 u91 u92 u93 u94 u95 u96 u97 u98 u99 u100 u101 u102 u103 u104 u105 u106 u107 u108 : Value)
    (hNI : NI B1 Bx bs bn rb R rcap W1 cIts rIts pre W g c its) :
    limBody.wpIn (Fence.wide.inRound l0) n Try.prog (ownPostG B (fun W W' => W'.heap[bs]? = W.heap[bs]? ∧ W'.heap[bn]? = W.heap[bn]?) (NI' B1 Bx bs bn rb R rcap W1 cIts rIts) (fun _ _ _ => False) (pre ++ [x]) W) { tmps := #[u0, u1, u2, u3, u4, u5, u6, u7, u8, u9, u10, .pointer (some ⟨Bx, 0, none⟩), ckV rb R x.1, u13, u14, u15, u16, u17, u18, u19, u20, u21, u22, u23, u24, u25, u26, u27, u28, u29, u30, u31, u32, u33, u34, u35, u36, u37, u38, u39, u40, u41, u42, u43, u44, u45, u46, u47, u48, u49, u50, u51, u52, u53, u54, u55, u56, u57, u58, u59, u60, u61, u62, u63, u64, u65, u66, u67, u68, u69, u70, u71, u72, u73, u74, u75, u76, u77, u78, u79, u80, u81, u82, u83, u84, u85, u86, u87, u88, u89, u90, u91, u92, u93, u94, u95, u96, u97, u98, u99, u100, u101, u102, u103, u104, u105, u106, u107, u108], defers := [] } W := by
  have x1 := x.2
  have hend : Aside0 (KeepsFrom B W W ∧ (W.heap[bs]? = W.heap[bs]? ∧ W.heap[bn]? = W.heap[bn]?) ∧ NI' B1 Bx bs bn rb R rcap W1 cIts rIts (pre ++ [x]) W) :=
    ⟨KeepsFrom.refl B W, ⟨rfl, rfl⟩, g, c, its, ⟨hNI.box, hNI.own, by rw [List.filterMap_append, hNI.its_]; simp [mk?, hhalf], hNI.bs_, hNI.bn_, hNI.bel⟩⟩
  have hmn : ckV rb R x.1 = .slice (some ⟨rb, x.1 * 2 * 3, none⟩) 1 1 := by
    unfold ckV
    rw [show min 2 (R - x.1 * 2) = 1 by omega]
  rw [hmn]
  clear hmn hNI
  unfold limBody
  simp only [Try.f40, Option.getD_some, rfBody]
  gi_wp2
  obtain ⟨ha, _, hb⟩ := hend.out
  exact ⟨ha, ⟨rfl, rfl⟩, hb⟩
end Go.Proofs.Ytpldapjcojjicaa.B
