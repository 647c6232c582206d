/- A region that draws its order, in a round of a loop over an iterator: walked as anywhere. No walk in this text. -/
import Derived.Test.YtpldapjcojjicaaWWords
import Derived.Test.YtpldapjcojjicaaWLast
import Derived.OrdersIn
import Derived.RangeFuncCalls
namespace Go.Proofs.Ytpldapjcojjicaa.B
open Go.RowKit Go.Proofs.YtpldapjcojjicaaW.PrintWords Go.Proofs.YtpldapjcojjicaaW.PrintLast
set_option linter.unusedVariables false
section
variable {P : Program} {ops : Array Oper} {Q : Exit → Act → World → Prop} {l rm : Nat}

theorem oper_in {o : Oper} {a : Act} {w : World} {K : Act → World → Prop} (hd : ∀ c, o.op ≠ .defer c) (h : o.wp P a w K Q) : o.wpIn (Fence.wide.inRound l) rm P a w K Q := by
  refine ⟨fun _ _ => trivial, ?_⟩
  rw [Oper.semAt_eq _ _ _ hd]
  unfold Oper.wp at h
  generalize (execOp a.eval o).run P w = r at *
  cases r with
  | ok x w' =>
    cases x <;> simp only [Oper.upon, Oper.uponIn] at h ⊢ <;>
      first
        | exact h
        | exact ⟨fun h => by simp [Fence.wide] at h, callsIn_wide.2 h⟩
        | exact ⟨fun h => by simp [Fence.wide] at h, fun c cs _ => let ⟨v, w', r, s⟩ := h c cs; ⟨v, w', r, stepsIn_wide.2 s⟩⟩
  | halt x w' => cases x <;> simp only [Oper.upon, Oper.uponIn] at h ⊢ <;> exact h
theorem any_in (hL : ¬ LetsOut Q) (hd : ∀ (i : Nat) (o : Oper), ops[i]? = some o → ∀ c, o.op ≠ .defer c) {md : Region.Mode} : ∀ (fuel : Nat) (listed : Array Bool) (a : Act) (w : World), wpAny P md ops Q fuel listed a w → wpAnyIn (Fence.wide.inRound l) rm P md ops Q fuel listed a w
  | 0, _, _, _, h => h
  | fuel + 1, listed, a, w, h => by
    refine ⟨h.1, fun i hi => ?_⟩
    have h1 := h.2 i hi
    unfold wpOp at h1
    unfold wpOpIn
    cases ho : ops[i]? with
    | none =>
      rw [ho] at h1
      exact any_in hL hd fuel _ a w h1
    | some o =>
      rw [ho] at h1
      simp only at h1 ⊢
      by_cases hw : Region.wanted o (yielded ops a.tmps) = true
      · rw [if_pos hw] at h1 ⊢
        rcases h1 with h1 | ⟨_, h1⟩
        · exact oper_in (hd i o ho) (Oper.wp_mono (fun a w h => any_in hL hd fuel _ a w h) h1)
        · exact absurd h1 hL
      · rw [if_neg hw] at h1 ⊢
        exact ⟨fun _ _ => trivial, any_in hL hd fuel _ _ w h1⟩
theorem startIn_ {S : World → Prop} {ds : List Nat} {id n : Nat} {a : Act} {w : World} (hL : ¬ LetsOut Q) (hd : ∀ (i : Nat) (o : Oper), ops[i]? = some o → ∀ c, o.op ≠ .defer c) (l1 : Array Bool) (hm : P.follows .mixedOrders = true) (hn : ops.size = n) (hl : Array.replicate n false = l1) (hS : S w.drew)
    (h : S w.drew → wpAnyLast P .any ops Q S ds n l1 a w.drew) : (Code.region id ops true).wpIn (Fence.wide.inRound l) rm P Q a w := by
  subst hn
  subst hl
  exact wpIn_region_any hm (any_in hL hd _ _ _ _ (wpAny_of_last _ _ _ _ (h hS)))
def noDeferB (ops : Array Oper) : Bool := ops.toList.all fun o => match o.op with
  | .defer _ => false
  | _ => true
theorem noDefer_of (h : noDeferB ops = true) : ∀ (i : Nat) (o : Oper), ops[i]? = some o → ∀ c, o.op ≠ .defer c := fun i o hi c e => by
  have hm : o ∈ ops.toList := by rw [← Array.getElem?_toList] at hi; exact List.mem_of_getElem? hi
  have := List.all_eq_true.1 h o hm
  rw [e] at this
  cases this
end
end Go.Proofs.Ytpldapjcojjicaa.B
