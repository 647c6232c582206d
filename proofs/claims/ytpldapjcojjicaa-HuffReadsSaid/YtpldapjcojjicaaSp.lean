/- Layer 2 (huff): trees of coins; spend's contract. -/
import Derived.Test.YtpldapjcojjicaaIt
import Derived.Test.YtpldapjcojjicaaCk
import Derived.WalkSpells
namespace Go.Proofs.Ytpldapjcojjicaa.B
open Go.RowKit Go.Proofs.YtpldapjcojjicaaW.PrintWords Go.Proofs.YtpldapjcojjicaaW.PrintLast Go.Proofs.YtpldapjcojjicaaW.PrintMore
set_option linter.unusedVariables false
set_option linter.unusedSimpArgs false

/-- A coin (how often its symbol stands, its symbol), or a pair. -/
inductive Tr
  | coin (n : Int) (s : Nat)
  | pair (a b : Tr)
instance : Inhabited Tr := ⟨.coin 0 0⟩
def Tr.wt : Tr → Int
  | .coin n _ => n
  | .pair a b => a.wt + b.wt
def Tr.size : Tr → Nat
  | .coin _ _ => 1
  | .pair a b => a.size + b.size + 1
def Tr.leaves : Tr → Nat
  | .coin _ _ => 1
  | .pair a b => a.leaves + b.leaves
def Tr.ok (n : Nat) : Tr → Prop
  | .coin _ s => s < n
  | .pair a b => a.ok n ∧ b.ok n
/-- Its coins counted. -/
def Tr.add : Tr → List Int → List Int
  | .coin _ s, L => L.set s (L.getD s 0 + 1)
  | .pair a b, L => b.add (a.add L)
def addAll (ts : List Tr) (L : List Int) : List Int := ts.foldl (fun L t => t.add L) L
def sizeAll (ts : List Tr) : Nat := (ts.map Tr.size).sum
def leavesAll (ts : List Tr) : Nat := (ts.map Tr.leaves).sum
theorem Tr.add_len : ∀ (t : Tr) (L : List Int), (t.add L).length = L.length
  | .coin _ s, L => by unfold Tr.add; rw [List.length_set]
  | .pair a b, L => by unfold Tr.add; rw [Tr.add_len b, Tr.add_len a]
theorem Tr.add_bd : ∀ (t : Tr) (L : List Int) (M : Int), (∀ j, 0 ≤ L.getD j 0 ∧ L.getD j 0 ≤ M) → ∀ j, 0 ≤ (t.add L).getD j 0 ∧ (t.add L).getD j 0 ≤ M + t.leaves
  | .coin _ s, L, M, h, j => by
    unfold Tr.add Tr.leaves
    have hj := h j
    have hs := h s
    rw [List.getD_eq_getElem?_getD, List.getElem?_set]
    rw [List.getD_eq_getElem?_getD] at hj
    split
    · split
      · simp only [Option.getD_some]; omega
      · simp only [Option.getD_none]; omega
    · omega
  | .pair a b, L, M, h, j => by
    unfold Tr.add Tr.leaves
    have h1 := Tr.add_bd a L M h
    have h2 := Tr.add_bd b (a.add L) (M + a.leaves) h1 j
    omega

/-- The cells from ⟨g, o⟩ on hold these coins and pairs. -/
def Lies (W : World) (g o : Nat) (its : List It) : Prop := ∀ j, j < its.length * 3 → W.cell? ⟨g, o + j, none⟩ = (flat its)[j]?
/-- x stands for the tree; the blocks that it leads to are of R. -/
def Rep (R : Nat → Prop) (W : World) : It → Tr → Prop
  | x, .coin n s => x = ⟨n, s, none, 0, 0⟩
  | x, .pair a b => ∃ g o c, x = ⟨a.wt + b.wt, 0, some ⟨g, o, none⟩, 2, c⟩ ∧ R g ∧ g < W.heap.size ∧ ∃ y z, Lies W g o [y, z] ∧ Rep R W y a ∧ Rep R W z b
theorem Rep.key {R : Nat → Prop} {W : World} : ∀ {x : It} {t : Tr}, Rep R W x t → x.n = t.wt
  | _, .coin n s, h => by rw [show _ = _ from h]; rfl
  | _, .pair a b, ⟨g, o, c, h, _⟩ => by rw [h]; rfl
theorem Lies.keep {W W' : World} {g o : Nat} {its : List It} (h : Lies W g o its) (hb : W'.heap[g]? = W.heap[g]?) : Lies W' g o its := fun j hj => by
  rw [← h j hj]
  simp only [World.cell?, hb]
theorem Rep.keep {R R' : Nat → Prop} {W W' : World} (hb : ∀ g, g < W.heap.size → R g → W'.heap[g]? = W.heap[g]?) (hs : W.heap.size ≤ W'.heap.size) (hR : ∀ g, g < W.heap.size → R g → R' g) : ∀ {x : It} {t : Tr}, Rep R W x t → Rep R' W' x t
  | _, .coin n s, h => h
  | _, .pair a b, ⟨g, o, c, h, r, hg, y, z, hl, hy, hz⟩ => ⟨g, o, c, h, hR g hg r, by omega, y, z, hl.keep (hb g hg r), Rep.keep hb hs hR hy, Rep.keep hb hs hR hz⟩
theorem Side.get {α β : Type} {R : α → β → Prop} : ∀ {l : List α} {m : List β}, Side R l m → ∀ i, i < l.length → ∃ a b, l[i]? = some a ∧ m[i]? = some b ∧ R a b
  | _, _, .nil, i, h => by simp at h
  | _, _, .cons h t, 0, _ => ⟨_, _, rfl, rfl, h⟩
  | _, _, .cons h t, i + 1, hi => by
    obtain ⟨a, b, e1, e2, r⟩ := t.get i (by simpa using hi)
    exact ⟨a, b, by simpa using e1, by simpa using e2, r⟩
theorem Side.len {α β : Type} {R : α → β → Prop} : ∀ {l : List α} {m : List β}, Side R l m → l.length = m.length
  | _, _, .nil => rfl
  | _, _, .cons h t => by simp [t.len]
theorem Side.imp {α β : Type} {R R' : α → β → Prop} (hi : ∀ a b, R a b → R' a b) : ∀ {l : List α} {m : List β}, Side R l m → Side R' l m
  | _, _, .nil => .nil
  | _, _, .cons h t => .cons (hi _ _ h) (t.imp hi)
theorem flat_at {its : List It} {i : Nat} {x : It} (h : its[i]? = some x) : (flat its)[i * 3]? = some (.int .i64 x.n) ∧ (flat its)[i * 3 + 1]? = some (.int .i64 x.s) ∧ (flat its)[i * 3 + 2]? = some (.slice x.p x.l x.c) := by
  have hi : i < its.length := by
    rcases Nat.lt_or_ge i its.length with c | c
    · exact c
    · rw [List.getElem?_eq_none c] at h; cases h
  refine ⟨?_, ?_, ?_⟩
  · rw [flat_get _ _ (by omega), show i * 3 / 3 = i by omega, show i * 3 % 3 = 0 by omega, h]; rfl
  · rw [flat_get _ _ (by omega), show (i * 3 + 1) / 3 = i by omega, show (i * 3 + 1) % 3 = 1 by omega, h]; rfl
  · rw [flat_get _ _ (by omega), show (i * 3 + 2) / 3 = i by omega, show (i * 3 + 2) % 3 = 2 by omega, h]; rfl
theorem Lies.at {W : World} {g o : Nat} {its : List It} (h : Lies W g o its) {i : Nat} {x : It} (hx : its[i]? = some x) :
    W.cell? ⟨g, o + i * 3, none⟩ = some (.int .i64 x.n) ∧ W.cell? ⟨g, o + i * 3 + 1, none⟩ = some (.int .i64 x.s) ∧ W.cell? ⟨g, o + i * 3 + 1 + 1, none⟩ = some (.slice x.p x.l x.c) := by
  have hi : i < its.length := by
    rcases Nat.lt_or_ge i its.length with c | c
    · exact c
    · rw [List.getElem?_eq_none c] at hx; cases hx
  have f := flat_at hx
  refine ⟨by rw [h _ (by omega)]; exact f.1, ?_, ?_⟩
  · have := h (i * 3 + 1) (by omega)
    rw [← Nat.add_assoc] at this
    rw [this]; exact f.2.1
  · have := h (i * 3 + 2) (by omega)
    rw [show o + (i * 3 + 2) = o + i * 3 + 1 + 1 by omega] at this
    rw [this]; exact f.2.2

/-- The lengths' block. -/
def IsL (W : World) (g : Nat) (L : List Int) : Prop := W.heap[g]? = some (.cells (nums .i64 L).toArray 3 (0, 0))
theorem IsL.cell {W : World} {g : Nat} {L : List Int} (h : IsL W g L) (j : Nat) (hj : j < L.length) : W.cell? ⟨g, j, none⟩ = some (.int .i64 (L.getD j 0)) := by
  rw [blk_cell h j]
  simp [nums, List.getD_eq_getElem?_getD, List.getElem?_eq_getElem hj]
theorem IsL.set {W : World} {g : Nat} {L : List Int} (h : IsL W g L) (j : Nat) (x : Int) : IsL (W.setCell ⟨g, j, none⟩ (.int .i64 x)) g (L.set j x) := by
  unfold IsL
  rw [blk_set h j (.int .i64 x)]
  congr 2
  rw [List.setIfInBounds_toArray]
  congr 1
  simp [nums, List.map_set]
theorem addAll_cons (t : Tr) (ts : List Tr) (L : List Int) : addAll (t :: ts) L = addAll ts (t.add L) := rfl
theorem sizeAll_cons (t : Tr) (ts : List Tr) : sizeAll (t :: ts) = t.size + sizeAll ts := by simp [sizeAll]
theorem leavesAll_cons (t : Tr) (ts : List Tr) : leavesAll (t :: ts) = t.leaves + leavesAll ts := by simp [leavesAll]
theorem Tr.size_pos (t : Tr) : 0 < t.size := by cases t <;> simp [Tr.size]
def Bdd (L : List Int) (M : Nat) : Prop := ∀ j, 0 ≤ L.getD j 0 ∧ L.getD j 0 ≤ (M : Int)

set_option maxHeartbeats 2000000 in
set_option maxRecDepth 100000 in
theorem spend_calls : ∀ (z : Nat) (ts : List Tr) (its : List It) (W : World) (lb g o c : Nat) (L : List Int) (M n cn : Nat), sizeAll ts < z → Side (Rep (fun k => k ≠ lb) W) its ts → Lies W g o its → g ≠ lb → g < W.heap.size → (its ≠ [] → True) →
    IsL W lb L → L.length = n → (∀ t ∈ ts, t.ok n) → Bdd L M → M + leavesAll ts ≤ 1000000000000 → its.length ≤ 1000000000000 → n ≤ 1000000000000 →
    ∀ nl : Int, nl = (its.length : Int) → Calls Try.prog 58 #[.slice (some ⟨lb, 0, none⟩) n cn, .slice (some ⟨g, o, none⟩) its.length c] W fun e W' => e = .returned (.tuple #[]) ∧ IsL W' lb (addAll ts L) ∧ Fr (fun k => k = lb) W W'
  | 0, _, _, _, _, _, _, _, _, _, _, _, h => by omega
  | z + 1, ts, its, W, lb, g, o, c, L, M, n, cn, hz => by
    intro hS hLi hglb hgs _ hIL hLn hok hB hM hil hn nl hnl
    have hS := Aside0.mk hS
    have hLi := Aside0.mk hLi
    have hok := Aside0.mk hok
    have hIL := Aside0.mk hIL
    have hB := Aside0.mk hB
    have hLn := Aside0.mk hLn
    have hu := Try.underlying85
    have hnil : ∀ (w : World) (a : Option Addr) (n c : Nat), (binOp .eql 85 (.slice a n c) (.slice none 0 0)).run Try.prog w = .ok (.bool a.isNone) w := fun w a n c => Lib.run_eql_slice_nil w 85 87 a n c 0 0 hu
    have IH := Aside0.mk (spend_calls z)
    go_enter Try.func58, Try.ntmps58
    go_wp2
    go_loopg [8] its.length (fun gh v8 wr => ∃ (i : Nat) (Li : List Int) (Mi : Nat), v8 = .int .i64 (i : Int) ∧ i ≤ its.length ∧ its.length - i ≤ gh ∧ Aside0 (IsL wr lb Li ∧ Li.length = n ∧ Fr (fun k => k = lb) W wr ∧ addAll (ts.drop i) Li = addAll ts L ∧ Bdd Li Mi ∧ Mi + leavesAll (ts.drop i) ≤ 1000000000000 ∧ sizeAll (ts.drop i) ≤ z))
    case atStart => exact ⟨0, L, M, rfl, Nat.zero_le _, by omega, ⟨hIL.out, hLn.out, Fr.refl _ _, rfl, hB.out, hM, by simpa using Nat.lt_succ_iff.1 hz⟩⟩
    case round =>
      obtain ⟨i, Li, Mi, rfl, hi, hg, HR⟩ := hrel
      by_cases hc : i < its.length
      · have hcb : decide ((i : Int) < (its.length : Int)) = true := decide_eq_true (by omega)
        have hcb' : decide (i < its.length) = true := decide_eq_true hc
        obtain ⟨x, t, ex, et, hrep⟩ := hS.out.get i hc
        have hts : ts.drop i = t :: ts.drop (i + 1) := by
          have hil : i < ts.length := by rw [← hS.out.len]; exact hc
          rw [List.drop_eq_getElem_cons hil]
          rw [List.getElem?_eq_getElem hil] at et
          rw [Option.some.inj et]
        have HC := (hLi.out.keep (HR.out.2.2.1.block g hgs hglb)).at ex
        obtain ⟨c0, c1, c2⟩ := HC
        have p0 := eq_true (show (0 : Int) ≤ (i : Int) by omega)
        have q0 := eq_true (show (i : Int) < (its.length : Int) by omega)
        have hts := Aside0.mk hts
        cases t with
        | coin m s =>
          obtain rfl : x = ⟨m, s, none, 0, 0⟩ := hrep
          simp only at c0 c1 c2
          have hsn : s < n := hok.out _ (List.mem_of_getElem? et)
          have hsn' : (s : Int) < (n : Int) := by omega
          obtain ⟨y, hy⟩ : ∃ y, Li.getD s 0 = y := ⟨_, rfl⟩
          have hyb := HR.out.2.2.2.2.1 s
          rw [hy] at hyb
          have hMl := HR.out.2.2.2.2.2.1
          have d0 : wr.cell? ⟨lb, s, none⟩ = some (.int .i64 y) := by rw [← hy]; exact HR.out.1.cell s (by rw [HR.out.2.1]; exact hsn)
          have f0 : wr.frozen? ⟨lb, s, none⟩ = false := blk_frozen HR.out.1 s
          have hlt : lb < wr.heap.size := blk_lt HR.out.1
          have hy := Aside0.mk hy
          have hMl := Aside0.mk hMl
          have yb0 : 0 ≤ y := hyb.1
          have yb1 : y ≤ 1000000000000 := by have := hMl.out; have := hyb.2; omega
          clear hyb
          have hnew : Aside0 (IsL ((wr.setCell ⟨lb, s, none⟩ (.int .i64 (y + 1))).alloc (.cells #[.int .i64 m, .int .i64 (s : Int), .slice none 0 0] 87)) lb (Li.set s (y + 1))) := ⟨(heap_alloc_old _ _ (by simpa using hlt)).trans (HR.out.1.set s (y + 1))⟩
          have hfr : Aside0 (Fr (fun k => k = lb) W ((wr.setCell ⟨lb, s, none⟩ (.int .i64 (y + 1))).alloc (.cells #[.int .i64 m, .int .i64 (s : Int), .slice none 0 0] 87))) := ⟨(HR.out.2.2.1.set_ _ _ (fun _ => rfl)).alloc _⟩
          go_wp2
          go_roundg (its.length - (i + 1))
          case measure => omega
          case rel =>
            refine ⟨i + 1, Li.set s (y + 1), Mi + 1, by go_num, by omega, Nat.le_refl _, ⟨hnew.out, by rw [List.length_set]; exact HR.out.2.1, hfr.out, ?_, ?_, ?_, ?_⟩⟩
            · have h1 := HR.out.2.2.2.1
              rw [hts.out, addAll_cons] at h1
              rw [← h1, ← hy.out]; rfl
            · have h1 := Tr.add_bd (.coin m s) Li Mi HR.out.2.2.2.2.1
              intro j
              have := h1 j
              unfold Tr.add Tr.leaves at this
              rw [hy.out] at this
              omega
            · have h1 := HR.out.2.2.2.2.2.1
              rw [hts.out, leavesAll_cons] at h1
              simp only [Tr.leaves] at h1
              omega
            · have h1 := HR.out.2.2.2.2.2.2
              rw [hts.out, sizeAll_cons] at h1
              omega
        | pair ta tb =>
          obtain ⟨g2, o2, cc2, rfl, hg2, hg2s, y, zz, hl2, hry, hrz⟩ := hrep
          simp only at c0 c1 c2
          obtain ⟨W1, hW1⟩ : ∃ W1, wr.alloc (.cells #[.int .i64 (ta.wt + tb.wt), .int .i64 0, .slice (some ⟨g2, o2, none⟩) 2 cc2] 87) = W1 := ⟨_, rfl⟩
          have hlt : lb < wr.heap.size := blk_lt HR.out.1
          have hF1 : Fr (fun k => k = lb) W W1 := by rw [← hW1]; exact HR.out.2.2.1.alloc _
          have hI1 : IsL W1 lb Li := by rw [← hW1]; exact (heap_alloc_old _ _ hlt).trans HR.out.1
          have hkeep : ∀ k, k < W.heap.size → k ≠ lb → W1.heap[k]? = W.heap[k]? := hF1.block
          have e1 := HR.out.2.2.2.2.2.1
          have e2 := HR.out.2.2.2.2.2.2
          rw [hts.out, leavesAll_cons] at e1
          rw [hts.out, sizeAll_cons] at e2
          have hsz : sizeAll [ta, tb] < z := by
            simp only [Tr.size] at e2
            simp only [sizeAll, List.map_cons, List.map_nil, List.sum_cons, List.sum_nil]
            omega
          have hlv : leavesAll [ta, tb] = (Tr.pair ta tb).leaves := by simp [leavesAll, Tr.leaves]
          have htok := hok.out _ (List.mem_of_getElem? et)
          have hcall := IH.out [ta, tb] [y, zz] W1 lb g2 o2 cc2 Li Mi n cn hsz
            (.cons (hry.keep hkeep hF1.size (fun _ _ h => h)) (.cons (hrz.keep hkeep hF1.size (fun _ _ h => h)) .nil)) (hl2.keep (hkeep g2 hg2s hg2)) hg2 (Nat.lt_of_lt_of_le hg2s hF1.size) (fun _ => trivial) hI1 HR.out.2.1
            (fun t ht => by
              simp only [List.mem_cons, List.not_mem_nil, or_false] at ht
              rcases ht with rfl | rfl
              · exact htok.1
              · exact htok.2) HR.out.2.2.2.2.1 (by rw [hlv]; omega) (by simp) hn 2 rfl
          replace hcall := Aside0.mk hcall
          have hF1 := Aside0.mk hF1
          have hkeep := Aside0.mk hkeep
          have e1 := Aside0.mk e1
          have e2 := Aside0.mk e2
          rw [← hW1] at hcall hF1
          clear hW1 hI1 hl2 hry hrz hlv hsz htok
          go_wp2_with (go_at_call 58; refine hcall.out.mono ?_; rintro e w2 ⟨rfl, hr1, hr2⟩; replace hr1 := Aside0.mk hr1; replace hr2 := Aside0.mk hr2)
          go_roundg (its.length - (i + 1))
          case measure => omega
          case rel =>
            refine ⟨i + 1, addAll [ta, tb] Li, Mi + (Tr.pair ta tb).leaves, by go_num, by omega, Nat.le_refl _, ⟨hr1.out, ?_, hF1.out.then_ hr2.out, ?_, ?_, ?_, ?_⟩⟩
            · rw [show addAll [ta, tb] Li = (Tr.pair ta tb).add Li from rfl, Tr.add_len]; exact HR.out.2.1
            · have h1 := HR.out.2.2.2.1
              rw [hts.out, addAll_cons] at h1
              rw [← h1]; rfl
            · have := Tr.add_bd (.pair ta tb) Li Mi HR.out.2.2.2.2.1
              intro j
              have := this j
              exact ⟨this.1, by push_cast; exact this.2⟩
            · have := e1.out; omega
            · have := e2.out; have := (Tr.pair ta tb).size_pos; omega
      · have hcb : decide ((i : Int) < (its.length : Int)) = false := decide_eq_false (by omega)
        have hcb' : decide (i < its.length) = false := decide_eq_false hc
        have hfin := HR.out.2.2.2.1
        rw [List.drop_eq_nil_of_le (by rw [← hS.out.len]; omega)] at hfin
        replace hfin := Aside0.mk hfin
        go_wp2
        go_end0
        exact ⟨rfl, by rw [← hfin.out]; exact HR.out.1, HR.out.2.2.1⟩
end Go.Proofs.Ytpldapjcojjicaa.B
