/- codec.Decode, whole. -/
import Derived.Test.YthinpbgbnlohpaaM37
import Derived.Test.YthinpbgbnlohpaaM38
namespace Go.Proofs.Ythinpbgbnlohpaa
set_option linter.unusedSimpArgs false
set_option linter.unusedVariables false
open Go.RowKit
theorem DecodeP_any (l : List UInt8) (A : Option Addr) (cap : Nat) (hl : l.length ≤ 1000000) (hcap : l.length ≤ cap) (W : World) (hr : Rd W A (bc l)) :
    Calls Try.prog 27 #[.slice A l.length cap] W (DecPostP l W) := by
  by_cases h36 : l.length < 36
  · exact Decode_early l A cap hl (.inl h36) W hr
  · by_cases h0 : l.getD 0 0 = 1
    · by_cases h1 : 1 < (l.getD 1 0).toNat
      · exact Decode_early l A cap hl (.inr (.inr h1)) W hr
      · rcases (show (l.getD 1 0).toNat = 0 ∨ (l.getD 1 0).toNat = 1 by omega) with h | h
        · exact Decode_kind0 l A cap hl hcap h36 h0 h W hr
        · exact Decode_kind1 l A cap hl hcap h36 h0 h W hr
    · exact Decode_early l A cap hl (.inr (.inl h0)) W hr
end Go.Proofs.Ythinpbgbnlohpaa
