/- LzLong: bytes that come again and again need few tokens. For every input. -/
import Derived.Test.YtlhgdkaaomdipaaM4
import Derived.Test.YtlhgdkaaomdipaaPr5
namespace Go.Proofs.Ytlhgdkaaomdipaa.Pure
open Go.RowKit Go.Proofs.Ytlhgdkaaomdipaa.Pr Go.Proofs.YtlhgdkaaomdipaaW.PrintWords Go.Proofs.YtlhgdkaaomdipaaW.PrintLast Go.Proofs.YtlhgdkaaomdipaaW.PrintMore Go.Proofs.Ytlhgdkaaomdipaa.Tok

theorem rfold_mono (d : ByteArray) (i : Nat) : ∀ m b f, b ≤ (rfold d i m b f).1
  | 0, b, f => Nat.le_refl _
  | m + 1, b, f => by
    unfold rfold
    split
    · split
      · have := rfold_mono d i m (mrun d i m 0) (i - m); omega
      · exact rfold_mono d i m b f
    · exact Nat.le_refl _
theorem rfold_max (d : ByteArray) (i j : Nat) (hw : i - j ≤ 512) : ∀ m b f, j < m → mrun d i j 0 ≤ (rfold d i m b f).1
  | 0, _, _, h => by omega
  | m + 1, b, f, h => by
    unfold rfold
    rw [if_pos (by omega)]
    by_cases e : j = m
    · subst e
      split
      · exact rfold_mono d i j _ _
      · have := rfold_mono d i j b f; omega
    · split
      · exact rfold_max d i j hw m _ _ (by omega)
      · exact rfold_max d i j hw m _ _ (by omega)

/-- Bytes of period p. -/
def Per (d : ByteArray) (p : Nat) : Prop := ∀ t, t + p < d.size → bt d ((t + p : Nat) : Int) = bt d (t : Int)

theorem best_per {d : ByteArray} {p i : Nat} (hp : Per d p) (h1 : 1 ≤ p) (h2 : p ≤ 200) (hi : p ≤ i) (m : Nat) (hm : m ≤ 258) (hm3 : 3 ≤ m) (him : i + m ≤ d.size) : m ≤ (best d i).1 := by
  have hr : m ≤ mrun d i (i - p) 0 := mrun_ge m hm him (fun t ht => by
    have := hp (i - p + t) (by omega)
    rw [show i - p + t + p = i + t by omega] at this
    exact this) 0 (by omega)
  have hx := rfold_max d i (i - p) (by omega) i 0 0 (by omega)
  rcases like_best d i (by omega) with ⟨h3, _⟩ | h3
  · omega
  · rw [← h3]; omega

theorem toks_tail (d : ByteArray) (p : Nat) (hp : Per d p) (h1 : 1 ≤ p) (h2 : p ≤ 200) : ∀ i, p ≤ i → i ≤ d.size → (toks d i).length ≤ (d.size - i) / 258 + 2 ∧ (d.size < i + 3 → (toks d i).length ≤ d.size - i) := by
  intro i hpi hi
  refine ⟨?_, fun _ => toks_len d i⟩
  by_cases h3 : d.size < i + 3
  · have := toks_len d i; omega
  · have hb := best_bd d i hi
    have hge : min 258 (d.size - i) ≤ (best d i).1 := best_per hp h1 h2 hpi _ (by omega) (by omega) (by omega)
    have ht := toks_tail d p hp h1 h2 (i + (best d i).1) (by omega) (by omega)
    have hl : (toks d i).length = (toks d (i + (best d i).1)).length + 1 := by
      conv => lhs; unfold toks
      rw [dif_pos (by omega), dif_neg (by omega)]
      simp
    have hl2 := toks_len d (i + (best d i).1)
    by_cases hr : d.size - i < 258
    · omega
    · have : (best d i).1 = 258 := by omega
      rw [this] at hl ht
      omega
termination_by i => d.size - i

theorem toks_head (d : ByteArray) (p : Nat) (hp : Per d p) (h1 : 1 ≤ p) (h2 : p ≤ 200) (hpd : p ≤ d.size) : ∀ i, i ≤ p → (toks d i).length ≤ (p - i) + (d.size - p) / 258 + 2 := by
  intro i hi
  by_cases e : i = p
  · subst e
    have := (toks_tail d i hp h1 h2 i (Nat.le_refl _) hpd).1
    omega
  · have hb := best_bd d i (by omega)
    have step : ∀ a, 1 ≤ a → i + a ≤ d.size → (toks d (i + a)).length + 1 ≤ (p - i) + (d.size - p) / 258 + 2 := by
      intro a ha hd
      by_cases h3 : i + a ≤ p
      · have := toks_head d p hp h1 h2 hpd (i + a) h3
        omega
      · have := (toks_tail d p hp h1 h2 (i + a) (by omega) hd).1
        have : (d.size - (i + a)) / 258 ≤ (d.size - p) / 258 := Nat.div_le_div_right (by omega)
        omega
    by_cases h3 : (best d i).1 < 3
    · have hl : (toks d i).length = (toks d (i + 1)).length + 1 := by
        conv => lhs; unfold toks
        rw [dif_pos (by omega), dif_pos h3]
        simp
      rw [hl]
      exact step 1 (by omega) (by omega)
    · have hl : (toks d i).length = (toks d (i + (best d i).1)).length + 1 := by
        conv => lhs; unfold toks
        rw [dif_pos (by omega), dif_neg h3]
        simp
      rw [hl]
      exact step _ (by omega) hb.2.1
termination_by i => p - i

/-- The part, so often. -/
def rep (a : ByteArray) : Nat → ByteArray
  | 0 => ⟨#[]⟩
  | n + 1 => rep a n ++ a
theorem rep_size (a : ByteArray) : ∀ n, (rep a n).size = n * a.size
  | 0 => by rw [Nat.zero_mul]; rfl
  | n + 1 => by
    rw [rep, ByteArray.size_append, rep_size a n, Nat.succ_mul]
theorem bt_append (a b : ByteArray) (t : Nat) : bt (a ++ b) (t : Int) = if t < a.size then bt a (t : Int) else bt b ((t - a.size : Nat) : Int) := by
  have h : ∀ s : ByteArray, bt s (t : Int) = (bytesOf s).getD t 0 := fun s => by rw [← rd_bytesOf]; unfold rd; rw [Int.toNat_natCast]
  have h2 : bytesOf (a ++ b) = bytesOf a ++ bytesOf b := by
    unfold bytesOf
    rw [ByteArray.data_append]
    simp
  rw [h, h, h2]
  have hb : bt b ((t - a.size : Nat) : Int) = (bytesOf b).getD (t - a.size) 0 := by rw [← rd_bytesOf]; unfold rd; rw [Int.toNat_natCast]
  rw [hb]
  have hl := bytesOf_length a
  split
  · rename_i hlt
    simp [List.getD, List.getElem?_append_left (show t < (bytesOf a).length by omega)]
  · rename_i hlt
    simp [List.getD, List.getElem?_append_right (show (bytesOf a).length ≤ t by omega), hl]
theorem bt_rep (a : ByteArray) (h : 0 < a.size) : ∀ n t, t < n * a.size → bt (rep a n) (t : Int) = bt a ((t % a.size : Nat) : Int)
  | 0, t, ht => by omega
  | n + 1, t, ht => by
    rw [rep, bt_append, rep_size]
    split
    · rename_i hlt
      exact bt_rep a h n t hlt
    · rename_i hlt
      rw [Nat.succ_mul] at ht
      have : t % a.size = t - n * a.size := by
        rw [show t = (t - n * a.size) + n * a.size by omega, Nat.add_mul_mod_self_right, Nat.mod_eq_of_lt (by omega)]
        omega
      rw [this]
theorem rep_per (a : ByteArray) (h : 0 < a.size) (n : Nat) : Per (rep a n) a.size := by
  intro t ht
  rw [rep_size] at ht
  rw [bt_rep a h n _ ht, bt_rep a h n t (by omega)]
  simp

theorem long_arith (s p : Nat) (hp : p ≤ 200) (hs : s ≤ 8000) (hps : p ≤ s) : wrap64 (wrap64 ((p : Int) + wrap64 (Int.tdiv (wrap64 ((s : Int) - (p : Int))) 258)) + 3) = ((p + (s - p) / 258 + 3 : Nat) : Int) := by
  have e1 : wrap64 ((s : Int) - (p : Int)) = ((s - p : Nat) : Int) := by rw [w64 _ (by omega)]; omega
  have e2 : Int.tdiv ((s - p : Nat) : Int) 258 = (((s - p) / 258 : Nat) : Int) := rfl
  have hq2 : (s - p) / 258 ≤ 8000 := Nat.le_trans (Nat.div_le_self _ _) (by omega)
  rw [e1, e2]
  generalize (s - p) / 258 = q at hq2 ⊢
  rw [w64 (q : Int) (by omega), w64 ((p : Int) + (q : Int)) (by omega), w64 _ (by omega)]
  omega

theorem long_l0 (a : ByteArray) (h1 : 1 ≤ a.size) (h2 : a.size ≤ 200) (N : Nat) (hN1 : 1 ≤ N) (hN : N ≤ 40) : ∀ m n, n + m = N → Ev (fun k => vitrinelaw04_LzLong.l0 k a (N : Int) (rep a n) (n : Int)) true := by
  intro m
  induction m with
  | zero =>
    intro n hn
    have hnN : n = N := by omega
    subst hnN
    have hs := rep_size a n
    have hs2 : n * a.size ≤ 40 * 200 := Nat.mul_le_mul hN h2
    have hs3 : 1 * a.size ≤ n * a.size := Nat.mul_le_mul_right _ hN1
    have hf : lz_Tokens.f (rep a n) = some (toks (rep a n) 0) := by unfold lz_Tokens.f; rw [if_pos (by omega)]
    have hl := toks_head (rep a n) a.size (rep_per a h1 n) h1 h2 (by omega) 0 (by omega)
    refine Ev.step (fun k => ?_) awake_true
    simp only [vitrinelaw04_LzLong.l0]
    obtain ⟨s, hs'⟩ : ∃ s, (rep a n).size = s := ⟨_, rfl⟩
    rw [hs'] at hs hl ⊢
    have hs4 : s ≤ 8000 := by omega
    have hs5 : a.size ≤ s := by omega
    have hq2 : (s - a.size) / 258 ≤ 8000 := Nat.le_trans (Nat.div_le_self _ _) (by omega)
    rw [if_neg (by omega), hf]
    simp only [Option.bind_some]
    rw [long_arith s a.size h2 hs4 hs5, if_pos (Int.ofNat_le.2 (by rw [Nat.sub_zero] at hl; omega))]
    cases vitrinelaw04_awake.f k <;> rfl
  | succ m ih =>
    intro n hn
    have hs := rep_size a n
    have hs2 : n * a.size ≤ 40 * 200 := Nat.mul_le_mul (by omega) h2
    refine Ev.step (fun k => ?_) (ih (n + 1) (by omega))
    simp only [vitrinelaw04_LzLong.l0]
    rw [if_pos (by omega), if_pos (by omega), w64 _ (by omega)]
    rfl

theorem LzLong : vitrinelaw04_LzLong.Pure := by
  intro a n ha hn
  refine Ev.rounds (g := fun k => vitrinelaw04_LzLong.f k a n) (r := true) ?_
  have hj : Ev (fun k => vitrinelaw04_LzLong.j0 k a n true) true := by
    refine Ev.step (fun k => ?_) awake_true
    simp only [vitrinelaw04_LzLong.j0, if_true]
    cases vitrinelaw04_awake.f k <;> rfl
  by_cases h1 : a.size < 1
  · refine Ev.congr (fun k => ?_) hj
    unfold vitrinelaw04_LzLong.f
    rw [if_pos (by omega)]
  · by_cases h2 : a.size > 200
    · refine Ev.congr (fun k => ?_) hj
      unfold vitrinelaw04_LzLong.f
      rw [if_neg (by omega), decide_eq_true (by omega)]
    · have hN : ∃ N : Nat, mn (mx n 1) 40 = (N : Int) ∧ 1 ≤ N ∧ N ≤ 40 := by
        have h3 : 1 ≤ mn (mx n 1) 40 ∧ mn (mx n 1) 40 ≤ 40 := by
          unfold mn mx
          split <;> split <;> omega
        exact ⟨(mn (mx n 1) 40).toNat, by omega, by omega, by omega⟩
      obtain ⟨N, hN0, hN1, hN2⟩ := hN
      refine Ev.congr (f := fun k => vitrinelaw04_LzLong.j0 k a n false) (fun k => ?_) (Ev.step (fun k => ?_) (long_l0 a (by omega) (by omega) N hN1 hN2 N 0 (by omega)))
      · unfold vitrinelaw04_LzLong.f
        rw [if_neg (by omega), decide_eq_false (by omega)]
      · simp only [vitrinelaw04_LzLong.j0]
        rw [if_neg (by simp), hN0]
        rfl

end Go.Proofs.Ytlhgdkaaomdipaa.Pure
