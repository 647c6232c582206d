/- Layer 2 (huff): Limit from its sort on: the rows, and the coins counted. -/
import Derived.Test.YtpldapjcojjicaaLp
namespace Go.Proofs.Ytpldapjcojjicaa.B
open Go.RowKit Go.Shelf Go.Proofs.YtpldapjcojjicaaW.PrintWords Go.Proofs.YtpldapjcojjicaaW.PrintLast Go.Proofs.YtpldapjcojjicaaW.PrintMore
set_option linter.unusedVariables false
set_option linter.unusedSimpArgs false
attribute [local go_sem] Oper.semAt_some

def spine : Nat → Code → Code
  | 0, c => c
  | k + 1, .seq _ b => spine k b
  | _ + 1, c => c
def firstOf : Code → Code
  | .seq a _ => a
  | c => c
noncomputable def limSort : Code := firstOf (spine 8 (Try.f40.body.getD .skip))
noncomputable def limTail : Code := spine 9 (Try.f40.body.getD .skip)

/-- What holds at the head of each round of the rows' loop. -/
structure LInv (n0 cg cc lb : Nat) (W0 : World) (cIts : List It) (cs : List Tr) (zeros : List Int) (i rb rcap : Nat) (rIts : List It) (Ds : List Nat) (w : World) : Prop where
  cl : Lies w cg 0 cIts
  cs_ : Side (Rep (fun k => k ≠ lb) w) cIts cs
  cgl : cg < w.heap.size ∧ cg ≠ lb
  rl : Lies w rb 0 rIts
  rs : Side (Rep (fun k => k ≠ lb) w) rIts (rowsF cs i)
  rbl : rb < w.heap.size ∧ rb ≠ lb ∧ rIts.length ≤ rcap
  ls : IsL w lb zeros
  bel : Below n0 W0 w
  n0l : n0 ≤ w.heap.size
  mk_ : ∀ D ∈ Ds, w.heap[D]? = some (.deferred (some [])) ∧ n0 ≤ D
  nd : Ds.Nodup
def RELt (n0 cg cc lb m1 : Nat) (W0 : World) (cIts : List It) (cs : List Tr) (zeros : List Int) (gk : Nat) (v10 v70 : Value) (ds : List Deferred) (w : World) : Prop :=
  ∃ (i rb rcap : Nat) (rIts : List It) (Ds : List Nat), v10 = .slice (some ⟨rb, 0, none⟩) rIts.length rcap ∧ v70 = .int .i64 (i : Int) ∧ ds = Ds.map mark ∧ i ≤ m1 ∧ m1 - i ≤ gk ∧ Aside0 (LInv n0 cg cc lb W0 cIts cs zeros i rb rcap rIts Ds w)

theorem Tr.leaves_pos : ∀ t : Tr, 0 < t.leaves
  | .coin _ _ => by simp [Tr.leaves]
  | .pair a b => by have := Tr.leaves_pos a; unfold Tr.leaves; omega
theorem rep_coin {R R' : Nat → Prop} {W W' : World} : ∀ {x : It} {t : Tr}, t.leaves = 1 → Rep R W x t → Rep R' W' x t
  | _, .coin _ _, _, h => h
  | _, .pair a b, hl, _ => by
    have h1 := Tr.leaves_pos a
    have h2 := Tr.leaves_pos b
    unfold Tr.leaves at hl
    omega
theorem Side.impMem {α β : Type} {R R' : α → β → Prop} : ∀ {l : List α} {m : List β}, Side R l m → (∀ a b, b ∈ m → R a b → R' a b) → Side R' l m
  | _, _, .nil, _ => .nil
  | _, _, .cons h t, hi => .cons (hi _ _ (List.mem_cons_self ..) h) (t.impMem fun a b hb => hi a b (List.mem_cons_of_mem _ hb))
theorem Side.take {α β : Type} {R : α → β → Prop} : ∀ {l : List α} {m : List β} (n : Nat), Side R l m → Side R (l.take n) (m.take n)
  | _, _, 0, _ => by simpa using Side.nil
  | _, _, n + 1, .nil => by simpa using Side.nil
  | _, _, n + 1, .cons h t => .cons h (t.take n)
theorem Lies.take {W : World} {g o : Nat} {its : List It} (h : Lies W g o its) (n : Nat) : Lies W g o (its.take n) := fun j hj => by
  rw [List.length_take] at hj
  rw [h j (by omega), flat_get _ _ (by omega), flat_get _ _ (by rw [List.length_take]; omega), List.getElem?_take, if_pos (by omega)]
theorem leavesAll_le (M : Nat) : ∀ ts : List Tr, (∀ t ∈ ts, t.leaves ≤ M) → leavesAll ts ≤ ts.length * M
  | [], _ => by simp [leavesAll]
  | t :: ts, h => by
    rw [leavesAll_cons, List.length_cons, Nat.add_mul, Nat.one_mul]
    have h1 := h t (List.mem_cons_self ..)
    have h2 := leavesAll_le M ts (fun t ht => h t (List.mem_cons_of_mem _ ht))
    omega
theorem ri_slice {W : World} {base nn : Nat} {v : Value} {its : List It} (h : RI W base v its) (hl : its.length = nn) (h0 : 0 < nn) : ∃ g c, v = .slice (some ⟨g, 0, none⟩) nn c ∧ RI W base (.slice (some ⟨g, 0, none⟩) its.length c) its := by
  subst hl
  obtain ⟨m, hm⟩ : ∃ m, its.length = m + 1 := ⟨its.length - 1, by omega⟩
  have h' : W.ownsRow base 87 3 v (m + 1) (flat its) := by rw [← hm]; exact h
  obtain ⟨g, c, rfl⟩ := ownsRow_succ h'
  exact ⟨g, c, by rw [hm], by rw [hm]; rw [← hm]; rw [← hm] at h; exact h⟩
set_option maxHeartbeats 8000000 in
set_option maxRecDepth 100000 in
theorem tail_wp (q n0 nn cg cc lb ll cl m1 : Nat) (W : World) (cIts0 : List It) (cs0 : List Tr) (zeros : List Int) (u1 u2 u3 u4 u5 u7 u8 u10 u11 u12 u13 u14 u15 u16 u17 u18 u19 u20 u21 u22 u23 u24 u25 u26 u27 u28 u29 u30 u31 u32 u33 u34 u35 u36 u37 u38 u39 u40 u41 u42 u43 u44 u45 u46 u47 u48 u49 u50 u51 u52 u53 u54 u55 u56 u57 u58 u59 u60 u61 u62 u63 u64 u65 u66 u67 u68 u69 u70 u71 u72 u73 u74 u75 u76 u77 u78 u79 u80 u81 u82 u83 u84 u85 u86 u87 u88 u89 u90 u91 u92 u93 u94 u95 u96 u97 u98 u99 u100 u101 u102 u103 u104 u105 u106 u107 u108 : Value) (R : Ending → World → Prop)
    (hm1 : m1 ≤ 14) (hown : RI W n0 (.slice (some ⟨cg, 0, none⟩) cIts0.length cc) cIts0) (hnn : cIts0.length = nn) (h2 : 2 ≤ nn) (h288 : nn ≤ 288) (hcap : nn ≤ 2 ^ (m1 + 1))
    (hS0 : Side (Rep (fun k => k ≠ lb) W) cIts0 cs0) (hcoin : ∀ t ∈ cs0, 0 ≤ t.wt ∧ t.wt ≤ 1000000000 ∧ t.leaves = 1 ∧ t.ok ll) (hls : IsL W lb zeros) (hzl : zeros.length = ll) (hz0 : Bdd zeros 0) (hlb : n0 ≤ lb) (hll : ll ≤ 1000) (hcglb : cg ≠ lb) (hn0 : n0 ≤ W.heap.size)
    (hR : ∀ W', IsL W' lb (addAll ((rowsF (isort Tr.wt cs0) m1).take (2 * nn - 2)) zeros) → Below n0 W W' → R (.returned (.tuple #[.slice (some ⟨lb, 0, none⟩) ll cl, .int .i64 0])) W') :
    ∀ K : Act → World → Prop, (∀ a w, limTail.wp Try.prog (bodyPostM Fence.wide q Try.prog Try.f40 R) a w → K a w) → limSort.wp Try.prog (Exit.then K (bodyPostM Fence.wide q Try.prog Try.f40 R)) { tmps := #[.int .i64 ((m1 : Int) + 1), u1, u2, u3, u4, u5, .slice (some ⟨cg, 0, none⟩) nn cc, u7, u8, .slice (some ⟨lb, 0, none⟩) ll cl, u10, u11, u12, u13, u14, u15, u16, u17, u18, u19, u20, u21, u22, u23, u24, u25, u26, u27, u28, u29, u30, u31, u32, u33, u34, u35, u36, u37, u38, u39, u40, u41, u42, u43, u44, u45, u46, u47, u48, u49, u50, u51, u52, u53, u54, u55, u56, u57, u58, u59, u60, u61, u62, u63, u64, u65, u66, u67, u68, u69, u70, u71, u72, u73, u74, u75, u76, u77, u78, u79, u80, u81, u82, u83, u84, u85, u86, u87, u88, u89, u90, u91, u92, u93, u94, u95, u96, u97, u98, u99, u100, u101, u102, u103, u104, u105, u106, u107, u108], defers := [] } W := by
  have hgrow : ∀ {W' : World}, W.grownBy W' (some cg) → Below n0 W W' := fun hg => (Below.refl n0 W).grown hg hn0 (fun k e => by cases e; exact hown.lies.2.1)
  have hlies := hown.lies
  have hsort := sortItems W n0 cg cc cIts0 hown (by omega)
  rw [hnn] at hsort
  have hsort := Aside0.mk hsort
  have hR := Aside0.mk hR
  have hgrow := Aside0.mk (fun W' => hgrow (W' := W'))
  have hnn' := Aside0.mk hnn
  have hzl' := Aside0.mk hzl
  have hS0 := Aside0.mk hS0
  have hcoin := Aside0.mk hcoin
  have hcap := Aside0.mk hcap
  have hlies := Aside0.mk hlies
  have hls := Aside0.mk hls
  have hz0 := Aside0.mk hz0
  have hown := Aside0.mk hown
  clear hnn hzl
  intro K hKK
  unfold limTail at hKK
  unfold limSort
  simp only [Try.f40, Option.getD_some, spine, firstOf] at hKK ⊢
  go_wp2_with (go_at_call 54; refine hsort.out.mono ?_; rintro e w1 ⟨rfl, hown1, hg1⟩; replace hown1 := Aside0.mk hown1; replace hg1 := Aside0.mk hg1)
  refine wp_loop_ghost_k (fun gk a w => ∃ (e11 e65 e66 e67 e68 e71 e72 e73 e74 e75 e76 e77 e78 e79 e80 e81 e82 e83 e84 e85 e86 e87 e88 e89 e90 e91 e92 e93 e94 e95 e96 e97 e98 e99 v10 v70 : Value) (ds : List Deferred), RELt n0 cg cc lb m1 W (isort It.n cIts0) (isort Tr.wt cs0) zeros gk v10 v70 ds w ∧ a = { tmps := #[.int .i64 ((m1 : Int) + 1), u1, u2, u3, u4, u5, .slice (some ⟨cg, 0, none⟩) nn cc, u7, u8, .slice (some ⟨lb, 0, none⟩) ll cl, v10, e11, u12, u13, u14, u15, u16, u17, u18, u19, u20, u21, u22, u23, u24, u25, u26, u27, u28, u29, u30, u31, u32, u33, u34, u35, u36, u37, u38, u39, u40, u41, u42, u43, u44, u45, u46, u47, u48, u49, u50, u51, u52, u53, u54, u55, u56, u57, u58, u59, u60, u61, u62, u63, u64, e65, e66, e67, e68, .int .i64 (m1 : Int), v70, e71, e72, e73, e74, e75, e76, e77, e78, e79, e80, e81, e82, e83, e84, e85, e86, e87, e88, e89, e90, e91, e92, e93, e94, e95, e96, e97, e98, e99, u100, u101, u102, u103, u104, u105, u106, u107, u108], defers := ds }) m1 ?_ ?_
  · refine ⟨_, _, _, _, _, _, _, _, _, _, _, _, _, _, _, _, _, _, _, _, _, _, _, _, _, _, _, _, _, _, _, _, _, _, _, _, _, ?_, rfl⟩
    refine ⟨0, cg, cc, isort It.n cIts0, [], by rw [isort_length, hnn'.out], rfl, rfl, Nat.zero_le _, by omega, ⟨?_⟩⟩
    have hb1 : Below n0 W w1 := hgrow.out _ hg1.out
    have hlen : (isort It.n cIts0).length = nn := by rw [isort_length, hnn'.out]
    have hl1 : RI w1 n0 (.slice (some ⟨cg, 0, none⟩) (isort It.n cIts0).length cc) (isort It.n cIts0) := by rw [hlen]; exact hown1.out
    have hl2 := hl1.lies
    have hlb1 : w1.heap[lb]? = W.heap[lb]? := hg1.out.block lb (blk_lt hls.out) (by simp; omega)
    have hside : Side (Rep (fun k => k ≠ lb) w1) (isort It.n cIts0) (isort Tr.wt cs0) :=
      isort_rel (fun a b h => h.key) (hS0.out.impMem fun a b hb h => rep_coin (hcoin.out b hb).2.2.1 h)
    exact ⟨hl2.1, hside, ⟨hl2.2.2.1, hcglb⟩, hl2.1, hside, ⟨hl2.2.2.1, hcglb, hl2.2.2.2⟩, hlb1.trans hls.out, hb1, Nat.le_trans hn0 hb1.size, (fun D h => by cases h), List.nodup_nil⟩
  · intro gk a wr hinv
    obtain ⟨e11, e65, e66, e67, e68, e71, e72, e73, e74, e75, e76, e77, e78, e79, e80, e81, e82, e83, e84, e85, e86, e87, e88, e89, e90, e91, e92, e93, e94, e95, e96, e97, e98, e99, v10, v70, ds, hrel, ha⟩ := hinv
    subst ha
    dsimp only
    intro _ _ _ _
    obtain ⟨i, rb, rcap, rIts, Ds, rfl, rfl, rfl, him, hg, HI⟩ := hrel
    by_cases hc : i < m1
    · have hcb : decide ((i : Int) < (m1 : Int)) = true := decide_eq_true (by omega)
      have hcb' : decide (i < m1) = true := decide_eq_true hc
      have hcl := Aside0.mk (cloneI_calls wr cg cc (isort It.n cIts0) HI.out.cl HI.out.cgl.1 (by rw [isort_length, hnn'.out]; omega))
      rw [isort_length, hnn'.out] at hcl
      have hlen : Aside0 ((isort It.n cIts0).length = nn) := ⟨by rw [isort_length, hnn'.out]⟩
      go_wp2_with (first | (go_at_call 56; refine hcl.out.mono ?_; rintro e w2 ⟨v2, rfl, hown2, hb2⟩; obtain ⟨g2, c2, rfl, hown2⟩ := ri_slice hown2 hlen.out (by omega); replace hown2 := Aside0.mk hown2; replace hb2 := Aside0.mk hb2) | (go_at_call 57; refine (chunk_calls _ _ _ _).mono ?_; rintro e w3 ⟨rfl, rfl⟩))
      obtain ⟨Bx, hBx⟩ : ∃ Bx, w2.heap.size = Bx := ⟨_, rfl⟩
      rw [hBx]
      obtain ⟨w3, hw3⟩ : ∃ w3, ((w2.alloc (.cells #[.slice (some ⟨g2, 0, none⟩) nn c2] 85)).alloc (.cells #[.slice (some ⟨rb, 0, none⟩) rIts.length rcap] 85)).alloc (.cells #[.int .i64 2] 3) = w3 := ⟨_, rfl⟩
      rw [hw3]
      have s1 : (w2.alloc (.cells #[.slice (some ⟨g2, 0, none⟩) nn c2] 85)).heap.size = Bx + 1 := by simp [hBx]
      have s2 : ((w2.alloc (.cells #[.slice (some ⟨g2, 0, none⟩) nn c2] 85)).alloc (.cells #[.slice (some ⟨rb, 0, none⟩) rIts.length rcap] 85)).heap.size = Bx + 1 + 1 := by simp [hBx]
      have hsz3 : w3.heap.size = Bx + 1 + 1 + 1 := by rw [← hw3]; simp [hBx]
      have hBxge : wr.heap.size ≤ Bx := by rw [← hBx]; exact hb2.out.size
      have hbox : w3.heap[Bx]? = some (.cells #[.slice (some ⟨g2, 0, none⟩) nn c2] 85 (0, 0)) := by
        rw [← hw3, heap_alloc_old _ _ (by omega), heap_alloc_old _ _ (by omega), ← hBx]
        exact heap_alloc_new _ _
      have hbs : w3.heap[Bx + 1]? = some (.cells #[.slice (some ⟨rb, 0, none⟩) rIts.length rcap] 85 (0, 0)) := by
        rw [← hw3, heap_alloc_old _ _ (by omega), ← s1]
        exact heap_alloc_new _ _
      have hbn : w3.heap[Bx + 1 + 1]? = some (.cells #[.int .i64 2] 3 (0, 0)) := by
        rw [← hw3, ← s2]
        exact heap_alloc_new _ _
      have hFr : Fr (fun _ => False) w2 w3 := by rw [← hw3]; exact (((Fr.refl _ w2).alloc _).alloc _).alloc _
      have hbel3 : Below wr.heap.size wr w3 := hb2.out.trans (hFr.to_below (fun _ _ _ h => h) hb2.out.size)
      have hown3 : RI w3 wr.heap.size (.slice (some ⟨g2, 0, none⟩) (isort It.n cIts0).length c2) (isort It.n cIts0) := by rw [hlen.out]; exact hFr.own hown2.out (fun _ _ h => h)
      have hrows := rows_len (isort Tr.wt cs0) i
      have hrl0 := HI.out.rs.len
      have hcl00 : (isort Tr.wt cs0).length = nn := by rw [isort_length, ← hS0.out.len, hnn'.out]
      rw [hcl00] at hrows
      have hNI0 : NI wr.heap.size Bx (Bx + 1) (Bx + 1 + 1) rb rIts.length rcap wr (isort It.n cIts0) rIts [] w3 g2 c2 (isort It.n cIts0) :=
        ⟨by rw [hlen.out]; exact hbox, hown3, by simp, hbs, hbn, hbel3⟩
      have hwts : ∀ k : Nat, 0 ≤ (rIts[k]?.getD default).n ∧ (rIts[k]?.getD default).n ≤ 1000000000000000000 := fun k => by
        by_cases hk : k < rIts.length
        · obtain ⟨x, t, ex, et, hr⟩ := HI.out.rs.get k hk
          have hb := rows_bd (isort Tr.wt cs0) 0 1000000000 (fun t ht => by have := hcoin.out t ((isort_mem _ _ _).1 ht); omega) i t (List.mem_of_getElem? et)
          have hp : 2 ^ i ≤ 2 ^ 14 := Nat.pow_le_pow_right (by decide) (by omega)
          rw [ex, Option.getD_some, hr.key]
          omega
        · rw [List.getElem?_eq_none (by omega)]
          exact ⟨Int.le_refl _, by decide⟩
      have hrl2 : rIts.length ≤ 2 * nn := by omega
      have hrl := Aside0.mk hrl0
      have hcl0 := Aside0.mk hcl00
      clear hw3 s1 s2 hcl hrows hrl0 hcl00
      refine wpIn_wide.1 (wpIn_rangeFunc_ownG (F := Fence.wide) (n := 9) rfl (by decide) (gf := 66) (lb := #[.pointer (some ⟨Bx + 1, 0, none⟩), .pointer (some ⟨Bx + 1 + 1, 0, none⟩)]) rfl trivial (enters_of Try.func66 (by kernel_rfl) rfl)
        (chunk_stops _ (Bx + 1) (Bx + 1 + 1) rb rIts.length rcap (by omega) HI.out.rbl.2.2 w3 hbs hbn) (fun h k => ⟨k.1.trans h.1, k.2.trans h.2⟩) (fun W' l o o' hl h _ _ => ⟨World.putObj_heap_other (by omega), World.putObj_heap_other (by omega)⟩) (Below.refl _ _) (fun _ => rfl)
        (NI' wr.heap.size Bx (Bx + 1) (Bx + 1 + 1) rb rIts.length rcap wr (isort It.n cIts0) rIts) (fun _ _ _ => False) (NI.own_from (by omega)) (fun _ _ _ _ _ h _ _ => h) ⟨g2, c2, _, hNI0⟩ (fun x => { tmps := #[.int .i64 ((m1 : Int) + 1), u1, u2, u3, u4, u5, .slice (some ⟨cg, 0, none⟩) nn cc, u7, u8, .slice (some ⟨lb, 0, none⟩) ll cl, .slice (some ⟨rb, 0, none⟩) rIts.length rcap, .pointer (some ⟨Bx, 0, none⟩), ckV rb rIts.length x.1, u13, u14, u15, u16, u17, u18, u19, u20, u21, u22, u23, u24, u25, u26, u27, u28, u29, u30, u31, u32, u33, u34, u35, u36, u37, u38, u39, u40, u41, u42, u43, u44, u45, u46, u47, u48, u49, u50, u51, u52, u53, u54, u55, u56, u57, u58, u59, u60, u61, u62, u63, u64, e65, e66, e67, e68, .int .i64 (m1 : Int), .int .i64 (i : Int), .bool true, .slice (some ⟨cg, 0, none⟩) nn cc, .slice (some ⟨g2, 0, none⟩) nn c2, .slice (some ⟨rb, 0, none⟩) rIts.length rcap, .func (.func 66) #[] #[.pointer (some ⟨Bx + 1, 0, none⟩), .pointer (some ⟨Bx + 1 + 1, 0, none⟩)], ckV rb rIts.length x.1, e77, e78, e79, e80, e81, e82, e83, e84, e85, e86, e87, e88, e89, e90, e91, e92, e93, e94, e95, e96, e97, e98, e99, u100, u101, u102, u103, u104, u105, u106, u107, u108], defers := [] }) ?assign ?body ?done ?stop)
      case assign =>
        intro l x W' K hK
        gi_wp2
        exact hK
      case body =>
        rintro l pre x W' ⟨g', c', its', hNI⟩ hlen'
        by_cases hfull : x.1 * 2 + 2 ≤ rIts.length
        · exact body_full _ _ _ _ _ _ _ _ _ _ _ _ _ _ _ _ _ _ _ hfull _ _ _ _ _ _ _ _ _ _ _ _ _ _ _ _ _ _ _ _ _ _ _ _ _ _ _ _ _ _ _ _ _ _ _ _ _ _ _ _ _ _ _ _ _ _ _ _ _ _ _ _ _ _ _ _ _ _ _ _ _ _ _ _ _ _ _ _ _ _ _ _ _ _ _ _ _ _ _ _ _ _ _ _ _ _ _ _ _ _ _ _ _ _ _ _ _ _ _ _ _ _ _ _ _ _ _ hNI (by rw [hNI.its_, List.length_append, hlen.out]; omega) (by rw [hNI.its_, List.length_append, hlen.out]; have := List.length_filterMap_le (mk? rIts rb) pre; omega) HI.out.rl HI.out.rbl.1 rfl hwts hBxge (Nat.le_refl _) (by omega) (by omega)
        · exact body_half _ _ _ _ _ _ _ _ _ _ _ _ _ _ _ _ _ _ _ hfull _ _ _ _ _ _ _ _ _ _ _ _ _ _ _ _ _ _ _ _ _ _ _ _ _ _ _ _ _ _ _ _ _ _ _ _ _ _ _ _ _ _ _ _ _ _ _ _ _ _ _ _ _ _ _ _ _ _ _ _ _ _ _ _ _ _ _ _ _ _ _ _ _ _ _ _ _ _ _ _ _ _ _ _ _ _ _ _ _ _ _ _ _ _ _ _ _ _ _ _ _ _ _ _ _ _ _ hNI
      case done =>
        rintro D xs W3 hD rfl ⟨g', c', its', hNI⟩ hK
        have hl' := hNI.own.lies
        have hlen2 : its'.length ≤ 1000000 := by rw [hNI.its_, List.length_append, hlen.out]; have := List.length_filterMap_le (mk? rIts rb) (cks rIts.length ((rIts.length + 1) / 2)); rw [cks_len _ (by omega)] at this; omega
        have hst := Aside0.mk (sortItems W3 wr.heap.size g' c' its' hNI.own (by omega))
        have hbx : W3.cell? ⟨Bx, 0, none⟩ = some (.slice (some ⟨g', 0, none⟩) its'.length c') := (blk_cell hNI.box 0).trans rfl
        have hg'B : g' ≠ Bx := fun e => by
          obtain ⟨cur, hb1, _⟩ := hNI.blk
          have hb2 := hNI.box
          rw [← e, hb1] at hb2
          simp at hb2
        have hNI' := Aside0.mk hNI
        have hK := Aside0.mk hK
        clear hNI
        go_wp2_with (go_at_call 54; refine hst.out.mono ?_; rintro e w4 ⟨rfl, hown4, hg4⟩; replace hown4 := Aside0.mk hown4; replace hg4 := Aside0.mk hg4; have hbx4 : w4.cell? ⟨Bx, 0, none⟩ = some (.slice (some ⟨g', 0, none⟩) its'.length c') := cell_grown_ hg4.out hbx (by simp; omega))
        go_roundg (m1 - (i + 1))
        case measure => omega
        case rel =>
          have hb4 : Below wr.heap.size wr w4 := hNI'.out.bel.grown hg4.out (by have := hNI'.out.bel.size; omega) (fun k e => by cases e; exact hl'.2.1)
          have hn0r := HI.out.n0l
          have hkeep : ∀ k, k < wr.heap.size → k ≠ lb → w4.heap[k]? = wr.heap[k]? := fun k hk _ => hb4.block k hk
          have hsl := isort_length It.n its'
          have hown4' : RI w4 wr.heap.size (.slice (some ⟨g', 0, none⟩) (isort It.n its').length c') (isort It.n its') := by rw [hsl]; exact hown4.out
          have hl4 := hown4'.lies
          have hlb4 : lb < wr.heap.size := blk_lt HI.out.ls
          have hrep : ∀ {x : It} {t : Tr}, Rep (fun k => k ≠ lb) wr x t → Rep (fun k => k ≠ lb) w4 x t := fun h => h.keep hkeep hb4.size (fun _ _ h => h)
          refine ⟨i + 1, g', c', isort It.n its', D :: Ds, by rw [hsl], by go_num, rfl, by omega, Nat.le_refl _, ⟨?_⟩⟩
          refine ⟨HI.out.cl.keep (hb4.block cg HI.out.cgl.1), HI.out.cs_.imp (fun _ _ h => hrep h), ⟨Nat.lt_of_lt_of_le HI.out.cgl.1 hb4.size, HI.out.cgl.2⟩, hl4.1, ?_, ⟨hl4.2.2.1, by omega, hl4.2.2.2⟩, (hb4.block lb hlb4).trans HI.out.ls, HI.out.bel.trans (hb4.mono hn0r), Nat.le_trans hn0r hb4.size, ?_, ?_⟩
          · show Side _ _ (isort Tr.wt (isort Tr.wt cs0 ++ pairsOf (rowsF (isort Tr.wt cs0) i)))
            refine isort_rel (fun a b h => h.key) ?_
            rw [hNI'.out.its_, cks_pairs _ _ _ _ (by omega), show min ((rIts.length + 1) / 2) (rIts.length / 2) = rIts.length / 2 by omega]
            exact (HI.out.cs_.imp (fun _ _ h => hrep h)).append (side_pairs (HI.out.rs.imp (fun _ _ h => hrep h)) (HI.out.rl.keep (hb4.block rb HI.out.rbl.1)) HI.out.rbl.2.1 (Nat.lt_of_lt_of_le HI.out.rbl.1 hb4.size))
          · intro D' hD'
            rcases List.mem_cons.1 hD' with rfl | hD'
            · refine ⟨(hg4.out.block _ (Array.getElem?_eq_some_iff.1 hK.out).1 (fun e => ?_)).trans hK.out, by omega⟩
              obtain ⟨cur, hb1, _⟩ := hNI'.out.blk
              have := hK.out
              rw [show g' = D' from (by simpa using e : D' = g').symm] at hb1
              rw [hb1] at this
              simp at this
            · have h := HI.out.mk_ D' hD'
              exact ⟨(hb4.block D' (Array.getElem?_eq_some_iff.1 h.1).1).trans h.1, h.2⟩
          · refine List.nodup_cons.2 ⟨fun hD' => ?_, HI.out.nd⟩
            have h := (Array.getElem?_eq_some_iff.1 (HI.out.mk_ D hD').1).1
            omega
      case stop =>
        rintro D c pre W' _ _ h _
        exact h.elim
    · obtain rfl : i = m1 := by omega
      have hcb : decide ((i : Int) < (i : Int)) = false := decide_eq_false (by omega)
      have hcl00 : (isort Tr.wt cs0).length = nn := by rw [isort_length, ← hS0.out.len, hnn'.out]
      have hen := rows_enough (isort Tr.wt cs0) (i + 1) (by rw [hcl00]; exact hcap.out) i (Nat.le_refl _)
      have hrl0 := HI.out.rs.len
      rw [hcl00, ← hrl0, show i + 1 - i = 1 by omega] at hen
      have hen : 2 * nn - 2 ≤ rIts.length := by omega
      have hrows := rows_len (isort Tr.wt cs0) i
      rw [hcl00, ← hrl0] at hrows
      have hcap2 : 2 * nn - 2 ≤ rcap := Nat.le_trans hen HI.out.rbl.2.2
      have htk : (rIts.take (2 * nn - 2)).length = 2 * nn - 2 := by rw [List.length_take]; omega
      have hside : Side (Rep (fun k => k ≠ lb) wr) (rIts.take (2 * nn - 2)) ((rowsF (isort Tr.wt cs0) i).take (2 * nn - 2)) := HI.out.rs.take _
      have hlies' : Lies wr rb 0 (rIts.take (2 * nn - 2)) := HI.out.rl.take _
      have hall : ∀ t ∈ rowsF (isort Tr.wt cs0) i, 0 ≤ t.wt ∧ t.wt ≤ 1000000000 * (2 ^ i : Nat) ∧ t.leaves ≤ 2 ^ i := rows_bd (isort Tr.wt cs0) 0 1000000000 (fun t ht => by have := hcoin.out t ((isort_mem _ _ _).1 ht); omega) i
      have hok : ∀ t ∈ rowsF (isort Tr.wt cs0) i, t.ok ll := rows_all (isort Tr.wt cs0) (fun t ht => (hcoin.out t ((isort_mem _ _ _).1 ht)).2.2.2) (fun a b ha hb => ⟨ha, hb⟩) i
      have hlv : leavesAll ((rowsF (isort Tr.wt cs0) i).take (2 * nn - 2)) ≤ (2 * nn - 2) * 2 ^ i := by
        have h1 := leavesAll_le (2 ^ i) ((rowsF (isort Tr.wt cs0) i).take (2 * nn - 2)) (fun t ht => (hall t (List.mem_of_mem_take ht)).2.2)
        have h2 : ((rowsF (isort Tr.wt cs0) i).take (2 * nn - 2)).length ≤ 2 * nn - 2 := by rw [List.length_take]; omega
        exact Nat.le_trans h1 (Nat.mul_le_mul_right _ h2)
      have hp : 2 ^ i ≤ 2 ^ 14 := Nat.pow_le_pow_right (by decide) (by omega)
      have hlv2 : (2 * nn - 2) * 2 ^ i ≤ 574 * 2 ^ 14 := Nat.mul_le_mul (by omega) hp
      have hsp := spend_calls _ ((rowsF (isort Tr.wt cs0) i).take (2 * nn - 2)) (rIts.take (2 * nn - 2)) wr lb rb 0 rcap zeros 0 ll cl (Nat.lt_succ_self _) hside hlies' HI.out.rbl.2.1 HI.out.rbl.1 (fun _ => trivial) HI.out.ls hzl'.out (fun t ht => hok t (List.mem_of_mem_take ht)) hz0.out (by omega) (by omega) (by omega) _ rfl
      rw [htk] at hsp
      have hsp := Aside0.mk hsp
      have hnnI : ((2 * nn - 2 : Nat) : Int) = 2 * (nn : Int) - 2 := by omega
      have hsl : ∀ W', (Instr.slice 85 (.slice (some ⟨rb, 0, none⟩) rIts.length rcap) none (some (.int .i64 (2 * (nn : Int) - 2))) none).run Try.prog W' = .ok (.slice (some ⟨rb, 0, none⟩) (2 * nn - 2) rcap) W' := fun W' => by
        have hu := Try.underlying85
        have hel : Try.prog.elem 85 = 87 := by simp [Program.elem, hu]
        rw [run_slice_h W' 85 (some ⟨rb, 0, none⟩) rIts.length rcap (by rw [hel]; exact hu) .i64 (2 * (nn : Int) - 2) (by omega) (by omega), hel]
        simp only [Try.sizeOf87, Result.andThen_ok, sliced]
        rw [show (2 * (nn : Int) - 2).toNat = 2 * nn - 2 by omega]
        simp [Addr.add]
      have q0 : (2 : Int) ≤ (nn : Int) := by omega
      have q1 : (nn : Int) ≤ 288 := by omega
      clear hcl00 hen hrl0 hrows hcap2 htk hside hlies' hall hok hlv hlv2 hp hnnI
      go_wp2_with (go_at_call 58; refine hsp.out.mono ?_; rintro e w5 ⟨rfl, hr1, hr2⟩; replace hr1 := Aside0.mk hr1; replace hr2 := Aside0.mk hr2)
      refine leaves_marks Ds w5 (fun D hD => ?_) HI.out.nd (fun w' hw' => ?_)
      · have h := HI.out.mk_ D hD
        have hne : D ≠ lb := fun e => by
          have h1 := h.1
          have h2 := HI.out.ls
          unfold IsL at h2
          rw [e, h2] at h1
          simp at h1
        exact (hr2.out.block D (Array.getElem?_eq_some_iff.1 h.1).1 hne).trans h.1
      · refine ⟨_, results_tmp2 (t := 4) (u := 5) rfl _ _ _, hR.out w' ?_ ?_⟩
        · have hnl : lb ∉ Ds := fun hD => by
            have h1 := (HI.out.mk_ lb hD).1
            have h2 := HI.out.ls
            unfold IsL at h2
            rw [h2] at h1
            simp at h1
          exact (hw'.block lb (blk_lt hr1.out) hnl).trans hr1.out
        · have hb5 : Below n0 wr w5 := hr2.out.to_below (fun k hk _ e => by omega) HI.out.n0l
          have hb6 : Below n0 w5 w' := hw'.to_below (fun k hk _ e => by have := (HI.out.mk_ k e).2; omega) (Nat.le_trans HI.out.n0l hb5.size)
          exact (HI.out.bel.trans hb5).trans hb6
end Go.Proofs.Ytpldapjcojjicaa.B
