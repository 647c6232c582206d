/- Layer 2 (huff): slices.Chunk at coins and pairs: the iterator's contract. -/
import Derived.Test.YtpldapjcojjicaaCl
import Derived.RangeFuncNested
import Derived.RangeFuncBound
import Derived.RangeFuncCalls
import Derived.RangeFuncLeaves
import Derived.RangeFuncBox
import Derived.Shelf.Abstract
import Derived.Shelf.RegionOpen
import Derived.WalkKit
import Derived.OwnWalkIn
import Derived.TacticsInMore
import Derived.LoopNIn
import Derived.LoopIn
import Derived.Deep.QuietTactic
import Derived.BigQuiet
namespace Go.Proofs.Ytpldapjcojjicaa.B
open Go.RowKit Go.Shelf Go.Proofs.YtpldapjcojjicaaW.PrintWords Go.Proofs.YtpldapjcojjicaaW.PrintLast Go.Proofs.YtpldapjcojjicaaW.PrintMore
set_option linter.unusedVariables false
set_option linter.unusedSimpArgs false
attribute [local go_sem] Oper.semAt_some

/-- The chunks of a row of r. -/
abbrev Ck (r : Nat) := { k : Nat // k * 2 < r }
/-- A chunk's slice. -/
def ckV (g r k : Nat) : Value := .slice (some ⟨g, k * 2 * 3, none⟩) (min 2 (r - k * 2)) (min 2 (r - k * 2))
/-- The first chunks. -/
def cks (r : Nat) : Nat → List (Ck r)
  | 0 => []
  | k + 1 => if h : k * 2 < r then cks r k ++ [⟨k, h⟩] else cks r k
theorem cks_succ {r k : Nat} (h : k * 2 < r) : cks r (k + 1) = cks r k ++ [⟨k, h⟩] := by
  conv => lhs; unfold cks
  rw [dif_pos h]
theorem cks_len {r : Nat} : ∀ k, k * 2 < r + 2 → (cks r k).length = k
  | 0, _ => rfl
  | k + 1, h => by
    rw [cks_succ (by omega), List.length_append, cks_len k (by omega)]
    rfl

theorem ck_slice (W : World) (g r cap k e : Nat) (he : 0 < e) (h : k * 2 + e ≤ cap) :
    (Instr.slice 85 (.slice (some ⟨g, 0, none⟩) r cap) (some (.int .i64 ((k : Int) * 2))) (some (.int .i64 ((k : Int) * 2 + (e : Int)))) (some (.int .i64 ((k : Int) * 2 + (e : Int))))).run Try.prog W = .ok (.slice (some ⟨g, k * 2 * 3, none⟩) e e) W := by
  have hu := Try.underlying85
  have hel : Try.prog.elem 85 = 87 := by simp [Program.elem, hu]
  have e0 : ((k : Int) * 2).toNat = k * 2 := by omega
  have e1 : ((k : Int) * 2 + (e : Int)).toNat = k * 2 + e := by omega
  rw [run_slice_any W 85 _ r cap (by rw [hel]; exact hu), hel]
  have hb : (Instr.sliceBounds true r cap (some (.int .i64 ((k : Int) * 2))) (some (.int .i64 ((k : Int) * 2 + (e : Int)))) (some (.int .i64 ((k : Int) * 2 + (e : Int))))).run Try.prog W = .ok (k * 2, k * 2 + e, k * 2 + e) W := by
    simp only [Instr.sliceBounds]
    simp [run_sliceBound, e0, e1, go_sem, (by omega : (0 : Int) ≤ (k : Int) * 2), (by omega : (0 : Int) ≤ (k : Int) * 2 + (e : Int)), (by omega : (k : Int) * 2 + (e : Int) ≤ (cap : Int)), (by omega : (k : Int) * 2 ≤ (k : Int) * 2 + (e : Int))]
  rw [hb]
  simp only [Result.andThen_ok, Try.sizeOf87, sliced]
  rw [if_neg (by omega), show k * 2 + e - k * 2 = e by omega]
  simp [Addr.add]
  omega
set_option maxRecDepth 100000 in
set_option maxHeartbeats 2000000 in
theorem chunk1_in (n l bs bn g r cap : Nat) (hr : r ≤ 1000000) (hcap : r ≤ cap) (J Jx : List (Ck r) → World → Prop) (W : World) (hJ : AbidesFrom W.heap.size J)
    (hY : ∀ pre x W1, J pre W1 → pre.length < r → YieldAt Fence.wide (n - 1) Try.prog l #[ckV g r x.1] W1 fun e W' =>
      (e = .returned (.bool true) ∧ J (pre ++ [x]) W' ∧ (W'.heap[bs]? = W1.heap[bs]? ∧ W'.heap[bn]? = W1.heap[bn]?)) ∨ (e = .returned (.bool false) ∧ Jx (pre ++ [x]) W'))
    (hs : W.heap[bs]? = some (.cells #[.slice (some ⟨g, 0, none⟩) r cap] 85 (0, 0))) (hn : W.heap[bn]? = some (.cells #[.int .i64 2] 3 (0, 0))) (h0 : J [] W) :
    CallsIn Fence.wide n Try.prog 66 #[.func (.yield l) #[] #[], .pointer (some ⟨bs, 0, none⟩), .pointer (some ⟨bn, 0, none⟩)] W fun e W' => (∃ v, e = .returned v) ∧
      ((∃ ys, ys = cks r ((r + 1) / 2) ∧ J ys W') ∨ (∃ pre, True ∧ Jx pre W')) := by
  have hu := Try.underlying85
  refine callsIn_of_wp Try.func66 rfl trivial ?_ rfl
  simp only [Try.ntmps66, List.size_toArray, List.length_cons, List.length_nil, Nat.reduceAdd, Nat.reduceSub, Array.replicate_succ, Array.replicate_zero, List.push_toArray, List.append_toArray, List.nil_append, List.cons_append]
  gi_wp2
  gi_loopw [4] (fun v4 wr => ∃ k : Nat, k * 2 < r + 2 ∧ v4 = .int .i64 ((k : Int) * 2) ∧ Aside0 (J (cks r k) wr) ∧ Aside0 (wr.heap[bs]? = some (.cells #[.slice (some ⟨g, 0, none⟩) r cap] 85 (0, 0))) ∧ Aside0 (wr.heap[bn]? = some (.cells #[.int .i64 2] 3 (0, 0)))) (fun v4 _ => r + 2 - (intOf v4).toNat)
  case atStart => exact ⟨0, by omega, rfl, ⟨h0⟩, ⟨hs⟩, ⟨hn⟩⟩
  case round =>
    obtain ⟨k, hk, rfl, HJ, HS, HN⟩ := hrel
    have c1 : wr.cell? ⟨bs, 0, none⟩ = some (.slice (some ⟨g, 0, none⟩) r cap) := (blk_cell HS.out 0).trans rfl
    have c2 : wr.cell? ⟨bn, 0, none⟩ = some (.int .i64 2) := (blk_cell HN.out 0).trans rfl
    by_cases hlt : k * 2 < r
    · have hb : decide ((k : Int) * 2 < (r : Int)) = true := decide_eq_true (by omega)
      have e0 : ((k : Int) * 2).toNat = k * 2 := by omega
      have p0 : (0 : Int) ≤ (k : Int) * 2 := by omega
      have p1 : (k : Int) * 2 ≤ (r : Int) := by omega
      have p2 : (k : Int) * 2 ≤ (cap : Int) := by omega
      have hcs := cks_succ hlt
      have hlen := cks_len (r := r) k hk
      have HJd : ∀ nq, J (cks r k) (wr.drewN nq) := fun nq => hJ _ wr _ none HJ.out ⟨rfl, rfl, rfl, Nat.le_refl _, fun _ _ _ => rfl⟩ (fun r e => by cases e)
      replace HJd := Aside0.mk HJd
      replace hcs := Aside0.mk hcs
      replace hlen := Aside0.mk hlen
      by_cases hfull : k * 2 + 2 ≤ r
      · have hm2 : min (2 : Int) ((r - k * 2 : Nat) : Int) = 2 := by omega
        have hmk : min 2 (r - k * 2) = 2 := by omega
        have hsl := fun W => ck_slice W g r cap k 2 (by decide) (by omega)
        simp only [show ((2 : Nat) : Int) = 2 from rfl] at hsl
        have hYk := hY (cks r k) ⟨k, hlt⟩
        unfold ckV at hYk
        simp only [hmk] at hYk
        replace hYk := Aside0.mk hYk
        replace hmk := Aside0.mk hmk
        gi_wp2
        refine wpIn_wide.2 ?_
        go_quiet (fail)
        obtain ⟨w2, hw2⟩ : ∃ w2, wr.drewN nq = w2 := ⟨_, rfl⟩
        have HJ2 : Aside0 (J (cks r k) w2) := ⟨by rw [← hw2]; exact HJd.out nq⟩
        have HS2 : Aside0 (w2.heap[bs]? = some (.cells #[.slice (some ⟨g, 0, none⟩) r cap] 85 (0, 0))) := ⟨by rw [← hw2]; exact HS.out⟩
        have HN2 : Aside0 (w2.heap[bn]? = some (.cells #[.int .i64 2] 3 (0, 0))) := ⟨by rw [← hw2]; exact HN.out⟩
        have d1 : w2.cell? ⟨bs, 0, none⟩ = some (.slice (some ⟨g, 0, none⟩) r cap) := (blk_cell HS2.out 0).trans rfl
        have d2 : w2.cell? ⟨bn, 0, none⟩ = some (.int .i64 2) := (blk_cell HN2.out 0).trans rfl
        rw [hw2]
        clear hw2 c1 c2 HJ HS HN HJd
        obtain ⟨fn, tmps, assign, body, hy, hR⟩ := hYk.out w2 HJ2.out (by have := hlen.out; omega)
        have hR := Aside0.mk hR
        gi_wp2
        refine ⟨fun h => (by simp [Fence.wide] at h), ?_⟩
        refine hR.out.mono ?_
        rintro e W3 (⟨rfl, hJ3, hk3, hk4⟩ | ⟨rfl, hJx3⟩)
        · have d3 : W3.cell? ⟨bn, 0, none⟩ = some (.int .i64 2) := (blk_cell (hk4.trans HN2.out) 0).trans rfl
          have HS3 : Aside0 (W3.heap[bs]? = some (.cells #[.slice (some ⟨g, 0, none⟩) r cap] 85 (0, 0))) := ⟨hk3.trans HS2.out⟩
          have HN3 : Aside0 (W3.heap[bn]? = some (.cells #[.int .i64 2] 3 (0, 0))) := ⟨hk4.trans HN2.out⟩
          have HJ3 : Aside0 (J (cks r (k + 1)) W3) := ⟨by rw [hcs.out]; exact hJ3⟩
          clear hk3 hk4 hJ3
          gi_wp2
          go_roundw
          case rel => exact ⟨k + 1, by omega, by first | rfl | go_num | (congr 1; omega), HJ3, HS3, HN3⟩
          case measure => simp [intOf]; omega
        · have HJx3 := Aside0.mk hJx3
          clear hJx3
          gi_wp2
          refine bodyPost_ret (results_none rfl _ _ _) rfl ?_
          exact ⟨⟨_, rfl⟩, .inr ⟨_, trivial, HJx3.out⟩⟩
      · have hm2 : min (2 : Int) ((r - k * 2 : Nat) : Int) = 1 := by omega
        have hmk : min 2 (r - k * 2) = 1 := by omega
        have hsl := fun W => ck_slice W g r cap k 1 (by decide) (by omega)
        simp only [show ((1 : Nat) : Int) = 1 from rfl] at hsl
        have hYk := hY (cks r k) ⟨k, hlt⟩
        unfold ckV at hYk
        simp only [hmk] at hYk
        replace hYk := Aside0.mk hYk
        replace hmk := Aside0.mk hmk
        gi_wp2
        refine wpIn_wide.2 ?_
        go_quiet (fail)
        obtain ⟨w2, hw2⟩ : ∃ w2, wr.drewN nq = w2 := ⟨_, rfl⟩
        have HJ2 : Aside0 (J (cks r k) w2) := ⟨by rw [← hw2]; exact HJd.out nq⟩
        have HS2 : Aside0 (w2.heap[bs]? = some (.cells #[.slice (some ⟨g, 0, none⟩) r cap] 85 (0, 0))) := ⟨by rw [← hw2]; exact HS.out⟩
        have HN2 : Aside0 (w2.heap[bn]? = some (.cells #[.int .i64 2] 3 (0, 0))) := ⟨by rw [← hw2]; exact HN.out⟩
        have d1 : w2.cell? ⟨bs, 0, none⟩ = some (.slice (some ⟨g, 0, none⟩) r cap) := (blk_cell HS2.out 0).trans rfl
        have d2 : w2.cell? ⟨bn, 0, none⟩ = some (.int .i64 2) := (blk_cell HN2.out 0).trans rfl
        rw [hw2]
        clear hw2 c1 c2 HJ HS HN HJd
        obtain ⟨fn, tmps, assign, body, hy, hR⟩ := hYk.out w2 HJ2.out (by have := hlen.out; omega)
        have hR := Aside0.mk hR
        gi_wp2
        refine ⟨fun h => (by simp [Fence.wide] at h), ?_⟩
        refine hR.out.mono ?_
        rintro e W3 (⟨rfl, hJ3, hk3, hk4⟩ | ⟨rfl, hJx3⟩)
        · have d3 : W3.cell? ⟨bn, 0, none⟩ = some (.int .i64 2) := (blk_cell (hk4.trans HN2.out) 0).trans rfl
          have HS3 : Aside0 (W3.heap[bs]? = some (.cells #[.slice (some ⟨g, 0, none⟩) r cap] 85 (0, 0))) := ⟨hk3.trans HS2.out⟩
          have HN3 : Aside0 (W3.heap[bn]? = some (.cells #[.int .i64 2] 3 (0, 0))) := ⟨hk4.trans HN2.out⟩
          have HJ3 : Aside0 (J (cks r (k + 1)) W3) := ⟨by rw [hcs.out]; exact hJ3⟩
          clear hk3 hk4 hJ3
          gi_wp2
          go_roundw
          case rel => exact ⟨k + 1, by omega, by first | rfl | go_num | (congr 1; omega), HJ3, HS3, HN3⟩
          case measure => simp [intOf]; omega
        · have HJx3 := Aside0.mk hJx3
          clear hJx3
          gi_wp2
          refine bodyPost_ret (results_none rfl _ _ _) rfl ?_
          exact ⟨⟨_, rfl⟩, .inr ⟨_, trivial, HJx3.out⟩⟩
    · have hb : decide ((k : Int) * 2 < (r : Int)) = false := decide_eq_false (by omega)
      have hke : k = (r + 1) / 2 := by omega
      have hke := Aside0.mk hke
      gi_wp2
      go_end0
      exact ⟨⟨_, rfl⟩, .inl ⟨_, by rw [← hke.out], HJ.out⟩⟩
/-- slices.Chunk(row, 2): its iterator's word: all chunks, in order; a round keeps the two boxes. -/
theorem chunk_stops (n bs bn g r cap : Nat) (hr : r ≤ 1000000) (hcap : r ≤ cap) (w : World) (hs : w.heap[bs]? = some (.cells #[.slice (some ⟨g, 0, none⟩) r cap] 85 (0, 0))) (hn : w.heap[bn]? = some (.cells #[.int .i64 2] 3 (0, 0))) :
    SeqStopsK Fence.wide n Try.prog 66 #[.pointer (some ⟨bs, 0, none⟩), .pointer (some ⟨bn, 0, none⟩)] (fun x : Ck r => #[ckV g r x.1]) (fun W W' => W'.heap[bs]? = W.heap[bs]? ∧ W'.heap[bn]? = W.heap[bn]?)
      (fun xs => xs = cks r ((r + 1) / 2)) (fun _ => True) r w := fun l J Jx W hW hJ hJx hY h0 =>
  chunk1_in n l bs bn g r cap hr hcap J Jx W hJ hY ((hW.block bs (blk_lt hs)).trans hs) ((hW.block bn (blk_lt hn)).trans hn) h0
set_option maxHeartbeats 1000000 in
theorem chunk_calls (W : World) (A : Option Addr) (r cap : Nat) : Calls Try.prog 57 #[.slice A r cap, .int .i64 2] W fun e W' => e = .returned (.func (.func 66) #[] #[.pointer (some ⟨W.heap.size, 0, none⟩), .pointer (some ⟨W.heap.size + 1, 0, none⟩)]) ∧ W' = (W.alloc (.cells #[.slice A r cap] 85)).alloc (.cells #[.int .i64 2] 3) := by
  go_enter Try.func57, Try.ntmps57
  go_wp2
  go_ret
  exact ⟨rfl, rfl⟩
end Go.Proofs.Ytpldapjcojjicaa.B
