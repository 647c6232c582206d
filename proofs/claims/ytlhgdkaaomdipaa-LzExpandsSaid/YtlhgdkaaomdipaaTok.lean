/- Layer 4 (lz): lz.Tokens as the printed texts call it: of at most 20000 bytes it returns the tokens that 'toks' tells. -/
import Derived.Test.YtlhgdkaaomdipaaTok4
namespace Go.Proofs.Ytlhgdkaaomdipaa.Pr
open Go.RowKit Go.Proofs.YtlhgdkaaomdipaaW.PrintWords
theorem lz_Tokens.calls (a0 : ByteArray) (r : List S34) (w : World) (h : lz_Tokens.f a0 = some r) :
    Calls Try.prog 8 #[.string a0] w fun e w' => ∃ v0_ : Value, e = .returned (v0_) ∧ Kd.R k34 34 w' w.heap.size (fun _ => True) v0_ r ∧ Below w.heap.size w w' := by
  unfold lz_Tokens.f at h
  split at h
  · rename_i hs
    obtain rfl := Option.some.inj h
    exact Tok.tokens_calls w a0 hs
  · cases h
end Go.Proofs.Ytlhgdkaaomdipaa.Pr
