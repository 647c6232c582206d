/- BitsAdler: the other sum is the document's. For every input. -/
import Derived.Test.YtpldapjcojjicaaPb1b
namespace Go.Proofs.Ytpldapjcojjicaa.Pure
open Go.RowKit Go.Proofs.Ytpldapjcojjicaa.Pb Go.Proofs.YtpldapjcojjicaaW.PrintWords Go.Proofs.YtpldapjcojjicaaW.PrintLast Go.Proofs.Ytpldapjcojjicaa.B

theorem adl_mod (x : Int) : 0 ≤ x % 65521 ∧ x % 65521 < 65521 := ⟨Int.emod_nonneg _ (by decide), Int.emod_lt_of_pos _ (by decide)⟩
theorem adl_one (x y : Int) (h0 : 0 ≤ x) (h1 : x < 65521) (g0 : 0 ≤ y) (g1 : y ≤ 65521) : Int.tmod (wrap64 (x + y)) 65521 = (x + y) % 65521 := by
  rw [w64' _ (by omega), Int.tmod_eq_emod_of_nonneg (by omega)]
theorem adl_step (x y : Int) (h0 : 0 ≤ x) (h1 : x < 65521) (g0 : 0 ≤ y) (g1 : y ≤ 65521) : Int.tmod (wrap64 (x + wrap64 y)) 65521 = (x + y) % 65521 := by
  rw [w64' y (by omega)]
  exact adl_one x y h0 h1 g0 g1
theorem adl_or (a b : Int) (ha0 : 0 ≤ a) (ha1 : a < 65521) (hb0 : 0 ≤ b) (hb1 : b < 65521) : Go.bits .or .i64 (wrap64 (b * 65536)) a = wrap64 (wrap64 (65536 * b) + a) := by
  obtain ⟨p, rfl⟩ : ∃ p : Nat, a = p := ⟨a.toNat, by omega⟩
  obtain ⟨q, rfl⟩ : ∃ q : Nat, b = q := ⟨b.toNat, by omega⟩
  have e := or_low p q 16 (by omega) (by omega)
  rw [bits_or_comm] at e
  have e2 : ((q * 2 ^ 16 : Nat) : Int) = (q : Int) * 65536 := by omega
  have a1 : wrap64 ((q : Int) * 65536) = (q : Int) * 65536 := w64' _ (by omega)
  have a2 : wrap64 (65536 * (q : Int)) = 65536 * (q : Int) := w64' _ (by omega)
  rw [e2] at e
  rw [a1, a2, e, w64' _ (by omega)]
  omega
theorem adl_next (i n : Nat) (h : i < n) (hn : n ≤ 140737488351232) : wrap64 ((i : Int) + 1) = ((i + 1 : Nat) : Int) := by
  rw [w64' _ (by omega)]
  omega

theorem adl_same (d : ByteArray) (hsz : d.size ≤ 140737488351232) : ∀ (m i : Nat) (a b : Int), i + m = d.size → 0 ≤ a → a < 65521 → 0 ≤ b → b < 65521 →
    ∃ r, Ev (fun k => bits_Adler.l0 k d a b (d.size : Int) (i : Int)) r ∧ Ev (fun k => vitrineref01_Adler.l0 k d a b (i : Int)) r := by
  intro m
  induction m with
  | zero =>
    intro i a b hi ha0 ha1 hb0 hb1
    have hor := adl_or a b ha0 ha1 hb0 hb1
    have hlt : ¬ ((i : Int) < (d.size : Int)) := by clear hor ha0 ha1 hb0 hb1; omega
    refine ⟨Go.bits .or .i64 (wrap64 (b * 65536)) a, Ev.step (fun k => ?_) (Ev.now _), Ev.step (fun k => ?_) (Ev.now _)⟩
    · simp only [bits_Adler.l0]
      rw [if_neg hlt]
    · simp only [vitrineref01_Adler.l0]
      rw [if_neg hlt, hor]
  | succ m ih =>
    intro i a b hi ha0 ha1 hb0 hb1
    have hr := bt_range d (i : Int)
    have hlt : (i : Int) < (d.size : Int) := by clear ih ha0 ha1 hb0 hb1 hr; omega
    have h0 : (0 : Int) ≤ (i : Int) := Int.natCast_nonneg i
    have e3 := adl_next i d.size (by omega) hsz
    generalize hy : bt d (i : Int) = y at hr
    have e1 := adl_step a y ha0 ha1 hr.1 (by omega)
    have m1 := adl_mod (a + y)
    generalize hx : (a + y) % 65521 = x at e1 m1
    have e2 := adl_one b x hb0 hb1 m1.1 (by omega)
    have m2 := adl_mod (b + x)
    generalize hz : (b + x) % 65521 = z at e2 m2
    obtain ⟨r, h1, h2⟩ := ih (i + 1) x z (by omega) m1.1 m1.2 m2.1 m2.2
    refine ⟨r, Ev.step (fun k => ?_) h1, Ev.step (fun k => ?_) h2⟩
    · simp only [bits_Adler.l0]
      rw [if_pos hlt, if_pos h0, if_pos hlt, hy, e1, e2, e3]
    · simp only [vitrineref01_Adler.l0]
      rw [if_pos hlt, if_pos h0, hy, e1, e2, e3]

theorem BitsAdler : vitrinelaw01_BitsAdler.Pure := by
  intro d hsz
  obtain ⟨r, h1, h2⟩ := adl_same d hsz d.size 0 1 0 (by omega) (by omega) (by omega) (by omega) (by omega)
  refine Ev.rounds (Ev.bind h1 (Ev.bind h2 ?_))
  refine Ev.congr (fun k => ?_) (Ev.now true)
  rw [if_pos rfl]
  rfl

end Go.Proofs.Ytpldapjcojjicaa.Pure
