/- Layer 2 (huff): HuffCodes in plain Lean. -/
import Derived.Test.YtpldapjcojjicaaPz2
import Derived.Test.YtpldapjcojjicaaPl2
namespace Go.Proofs.Ytpldapjcojjicaa.Pure
open Go.RowKit Go.Proofs.Ytpldapjcojjicaa.Pl Go.Proofs.Ytpldapjcojjicaa.B Go.Proofs.YtpldapjcojjicaaW.PrintWords Go.Proofs.YtpldapjcojjicaaW.PrintLast
theorem codes_wipe (l : List Int) (hl : l.length ≤ 1000000000000000) : ∀ (d i k : Nat) (a : List Int), i + d = a.length → a.length ≤ 1000 → l.length < k → vitrinelaw02_HuffCodes.l0 (k + d + 1) l l a i = some true
  | 0, i, k, a, h, ha, hk => by
    unfold vitrinelaw02_HuffCodes.l0
    rw [if_neg (by omega), ints_self l k hk hl]
    rfl
  | d + 1, i, k, a, h, ha, hk => by
    rw [show k + (d + 1) + 1 = (k + d + 1) + 1 by omega]
    unfold vitrinelaw02_HuffCodes.l0
    rw [if_pos (by omega), if_pos (by omega), w64 _ (by omega), show ((i : Int) + 1) = ((i + 1 : Nat) : Int) by omega]
    exact codes_wipe l hl d (i + 1) k _ (by rw [List.length_set]; omega) (by rw [List.length_set]; omega) hk
theorem codesF_len (l : List Int) : (codesF l).1.length ≤ 288 := by
  unfold codesF
  split
  · rename_i hc
    obtain ⟨hl, hb⟩ := checkF_ok hc
    rw [codesL_is l (good_of hb), upto_len]
    exact hl
  · simp
theorem HuffCodes : vitrinelaw02_HuffCodes.Pure := by
  intro l _ h8 _
  have hcl := codesF_len l
  refine ⟨15 * (l.length + 2) + 1000, ?_⟩
  unfold vitrinelaw02_HuffCodes.f huff_Codes.f
  simp only [Option.bind_some, List.nil_append, List.length_nil, Nat.zero_add]
  rw [if_pos (by omega), if_pos (by omega), codes_is l _ (by omega)]
  simp only [Option.bind_some]
  rw [if_pos trivial, ints_self _ _ (by omega) (by omega)]
  simp only [Option.bind_some]
  rw [show 15 * (l.length + 2) + 1000 = ((15 * (l.length + 2) + 998 - (codesF l).1.length) + (codesF l).1.length + 1) + 1 by omega]
  have hj : ∀ k, vitrinelaw02_HuffCodes.j0 (k + 1) l l (codesF l).1 (!true) = vitrinelaw02_HuffCodes.l0 k l l (codesF l).1 0 := fun k => rfl
  rw [hj]
  exact codes_wipe l (by omega) (codesF l).1.length 0 _ (codesF l).1 (by omega) (by omega) (by omega)
end Go.Proofs.Ytpldapjcojjicaa.Pure
