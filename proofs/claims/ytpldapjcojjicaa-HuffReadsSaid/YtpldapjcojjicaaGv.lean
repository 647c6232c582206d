/- Layer 2 (huff): Check, Codes and Limit as the printed texts call them. -/
import Derived.Test.YtpldapjcojjicaaCo
import Derived.Test.YtpldapjcojjicaaLh
namespace Go.Proofs.Ytpldapjcojjicaa.Pl
open Go.RowKit Go.Proofs.YtpldapjcojjicaaW.PrintWords Go.Proofs.YtpldapjcojjicaaW.PrintLast Go.Proofs.YtpldapjcojjicaaW.PrintMore Go.Proofs.Ytpldapjcojjicaa.B
set_option linter.unusedVariables false

def huff_Check.f (l0 : List Int) : Option Int := if l0.length ≤ 100000000000000 then some (checkF l0) else none
theorem huff_Check.calls (A0 : Option Addr) (c0 : Nat) (l0 : List Int) (r : Int) (w : World) (hr0 : Kd.C (Kd.int .i64) w A0 l0.length l0) (hc0 : l0.length ≤ c0) (h : huff_Check.f l0 = some r) :
    Calls Try.prog 34 #[.slice A0 l0.length c0] w fun e w' => e = .returned (.int .i64 r) ∧ Below w.heap.size w w' := by
  unfold huff_Check.f at h
  split at h
  · rename_i hl
    obtain rfl := Option.some.inj h
    exact (check_calls w A0 c0 l0 hr0 hl).mono fun e w' ⟨h1, h2⟩ => ⟨h1, h2.to_below (fun _ _ _ e => e) (Nat.le_refl _)⟩
  · cases h
theorem r_own {w : World} {base : Nat} {v : Value} {r : List Int} (h : w.ownsRow base 3 1 v r.length (nums .i64 r)) : Kd.R (Kd.int .i64) 3 w base (fun _ => True) v r :=
  Kd.R_of_own h (fun _ _ => trivial)
def huff_Codes.f (l0 : List Int) : Option (List Int × Int) := if l0.length ≤ 100000000000000 then some (codesF l0) else none
theorem huff_Codes.calls (A0 : Option Addr) (c0 : Nat) (l0 : List Int) (r1 : List Int) (r2 : Int) (w : World) (hr0 : Kd.C (Kd.int .i64) w A0 l0.length l0) (hc0 : l0.length ≤ c0) (h : huff_Codes.f l0 = some (r1, r2)) :
    Calls Try.prog 37 #[.slice A0 l0.length c0] w fun e w' => ∃ v0_ : Value, e = .returned (.tuple #[v0_, .int .i64 r2]) ∧ Kd.R (Kd.int .i64) 3 w' w.heap.size (fun _ => True) v0_ r1 ∧ Below w.heap.size w w' := by
  unfold huff_Codes.f at h
  split at h
  · rename_i hl
    exact (codes_calls w A0 c0 l0 hr0 hl r1 r2 (Option.some.inj h)).mono fun e w' ⟨v, h1, h2, h3⟩ => ⟨v, h1, r_own h2, h3⟩
  · cases h
def huff_Limit.f (a0 : Int) (l1 : List Int) : Option (List Int × Int) := if l1.length ≤ 100000000000000 then some (limitF a0 l1) else none
theorem huff_Limit.calls (a0 : Int) (A1 : Option Addr) (c1 : Nat) (l1 : List Int) (r1 : List Int) (r2 : Int) (w : World) (hr1 : Kd.C (Kd.int .i64) w A1 l1.length l1) (hc1 : l1.length ≤ c1) (h : huff_Limit.f a0 l1 = some (r1, r2)) :
    Calls Try.prog 40 #[.int .i64 a0, .slice A1 l1.length c1] w fun e w' => ∃ v0_ : Value, e = .returned (.tuple #[v0_, .int .i64 r2]) ∧ Kd.R (Kd.int .i64) 3 w' w.heap.size (fun _ => True) v0_ r1 ∧ Below w.heap.size w w' := by
  unfold huff_Limit.f at h
  split at h
  · rename_i hl
    have h := Option.some.inj h
    by_cases hb : a0 < 1 ∨ 15 < a0 ∨ 288 < l1.length ∨ l1.any badCount = true
    · unfold limitF at h
      rw [if_pos hb] at h
      obtain ⟨rfl, rfl⟩ : [] = r1 ∧ (1 : Int) = r2 := ⟨congrArg Prod.fst h, congrArg Prod.snd h⟩
      refine (limit_bad w A1 c1 l1 a0 hr1 hl hb).mono ?_
      rintro e w' ⟨rfl, rfl⟩
      exact ⟨_, rfl, r_own (World.ownsRow_nil _ _ _ _), Below.refl _ _⟩
    · obtain ⟨m1, hm⟩ : ∃ m1 : Nat, a0 = (m1 : Int) + 1 := ⟨(a0 - 1).toNat, by omega⟩
      subst hm
      have hbad : l1.any badCount = false := by
        cases hh : l1.any badCount
        · rfl
        · exact absurd (.inr (.inr (.inr hh))) hb
      exact (limit_good w A1 c1 l1 m1 hr1 (by omega) (by omega) hbad r1 r2 h).mono fun e w' ⟨v, h1, h2, h3⟩ => ⟨v, h1, r_own h2, h3⟩
  · cases h
end Go.Proofs.Ytpldapjcojjicaa.Pl
