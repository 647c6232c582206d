/- LzBack: what the tokens of any bytes say is these bytes; each token is one that may be, and there are no more of them than bytes. For every input. -/
import Derived.Test.YtlhgdkaaomdipaaM4
import Derived.Test.YtlhgdkaaomdipaaPr5
namespace Go.Proofs.Ytlhgdkaaomdipaa.Pure
open Go.RowKit Go.Proofs.Ytlhgdkaaomdipaa.Pr Go.Proofs.YtlhgdkaaomdipaaW.PrintWords Go.Proofs.YtlhgdkaaomdipaaW.PrintLast Go.Proofs.Ytlhgdkaaomdipaa.Tok

theorem str_bytes (d : ByteArray) : strOfNums (bytesOf d) = d := by
  unfold strOfNums bytesOf
  rw [List.map_map]
  have : (fun n : Int => UInt8.ofNat n.toNat) ∘ (fun b : UInt8 => (b.toNat : Int)) = id := by
    funext b
    simp
  rw [this, List.map_id]

theorem back_l0 (d : ByteArray) (hsz : d.size ≤ 20000) (l : List S34) (hl : l = toks d 0) : ∀ (i j : Nat), i ≤ d.size → j ≤ l.length → l.drop j = toks d i → Ev (fun k => vitrinelaw04_LzBack.l0 k d l d 0 (i : Int) (j : Int)) true := by
  intro i j hi hj h
  have hll : l.length ≤ d.size := by rw [hl]; exact toks_len d 0
  have e4 : wrap64 ((j : Int) + 1) = ((j + 1 : Nat) : Int) := by rw [w64 _ (by omega)]; omega
  by_cases hlt : i < d.size
  · have hb := best_bd d i hi
    have hjl : j < l.length := by
      have := congrArg List.length h
      rw [List.length_drop] at this
      unfold toks at this
      rw [dif_pos hlt] at this
      split at this <;> simp at this <;> omega
    have hd := drop_at hjl
    rw [h] at hd
    unfold toks at hd
    rw [dif_pos hlt] at hd
    have hrd : rd_T34 l (j : Int) = l[j] := rd_at hjl
    split at hd
    · rename_i h3
      have hr := bt_range d (i : Int)
      injection hd with h1 h2
      have ht : isTok l[j] = true := by rw [← h1]; exact (isTok_lit rfl).2 ⟨rfl, hr.1, hr.2⟩
      refine Ev.step (fun k => ?_) (back_l0 d hsz l hl (i + 1) (j + 1) (by omega) (by omega) h2.symm)
      simp only [vitrinelaw04_LzBack.l0]
      rw [if_pos (by omega), if_pos (by omega), hrd, right_eq, ht]
      simp only [Option.bind_some, if_true]
      rw [← h1, if_neg (by show ¬ (0 : Int) > 512; omega), e4]
      congr 1
      rw [w64 _ (by unfold mx; show _ ∧ _; simp; omega)]
      unfold mx
      simp
    · rename_i h3
      have hb3 := hb.2.2 (by omega)
      injection hd with h1 h2
      have n0 : ¬ (⟨0, ((best d i).1 : Int), ((best d i).2 : Int)⟩ : S34).f1 = 0 := by show ¬ ((best d i).1 : Int) = 0; omega
      have ht : isTok l[j] = true := by
        rw [← h1]
        exact (isTok_match n0).2 ⟨rfl, by show (3 : Int) ≤ ((best d i).1 : Int); omega, by show ((best d i).1 : Int) ≤ 258; omega, by show (1 : Int) ≤ ((best d i).2 : Int); omega, by show ((best d i).2 : Int) ≤ 32768; omega⟩
      have e5 : wrap64 ((i : Int) + mx ((best d i).1 : Int) 1) = ((i + (best d i).1 : Nat) : Int) := by
        have : mx ((best d i).1 : Int) 1 = ((best d i).1 : Int) := by unfold mx; split <;> omega
        rw [this, w64 _ (by omega)]; omega
      refine Ev.step (fun k => ?_) (back_l0 d hsz l hl (i + (best d i).1) (j + 1) (by omega) (by omega) h2.symm)
      simp only [vitrinelaw04_LzBack.l0]
      rw [if_pos (by omega), if_pos (by omega), hrd, right_eq, ht]
      simp only [Option.bind_some, if_true]
      rw [← h1, if_neg (by show ¬ ((best d i).2 : Int) > 512; omega), e4]
      show vitrinelaw04_LzBack.l0 k d l d 0 (wrap64 ((i : Int) + mx ((best d i).1 : Int) 1)) _ = _
      rw [e5]
  · have hj2 : j = l.length := by
      have := congrArg List.length h
      rw [List.length_drop] at this
      unfold toks at this
      rw [dif_neg hlt] at this
      simp at this
      omega
    refine Ev.step (fun k => ?_) awake_true
    simp only [vitrinelaw04_LzBack.l0]
    rw [if_neg (by omega), if_pos trivial, if_pos trivial, if_pos (by omega), if_pos (by omega)]
    cases vitrinelaw04_awake.f k <;> rfl
termination_by i => d.size - i

theorem LzBack : vitrinelaw04_LzBack.Pure := by
  intro d hd
  refine Ev.rounds (g := fun k => vitrinelaw04_LzBack.f k d) (r := true) ?_
  by_cases h : 20000 < d.size
  · refine Ev.congr (fun k => ?_) awake_true
    unfold vitrinelaw04_LzBack.f
    rw [if_pos (by omega)]
    cases vitrinelaw04_awake.f k <;> rfl
  · have ht := toks_len d 0
    have hf : lz_Tokens.f d = some (toks d 0) := by unfold lz_Tokens.f; rw [if_pos (by omega)]
    obtain ⟨K1, h1⟩ := exp_say (toks d 0) (by omega)
    obtain ⟨K2, h2⟩ := back_l0 d (by omega) (toks d 0) rfl 0 0 (by omega) (by omega) rfl
    have h3 := say_toks d 0 (by omega)
    rw [List.take_zero, str_bytes] at h3
    refine ⟨max K1 K2, fun k hk => ?_⟩
    have h1' := h1 k (by omega)
    have h2' := h2 k (by omega)
    simp only at h1' h2' ⊢
    unfold vitrinelaw04_LzBack.f
    rw [if_neg (by omega), hf]
    simp only [Option.bind_some, h1', h3]
    exact h2'

end Go.Proofs.Ytlhgdkaaomdipaa.Pure
