/- Need: NeedLimits, for any arguments. -/
import Derived.Test.YtmidkomdmnncoaaNd27
namespace Go.Proofs.Ytmidkomdmnncoaa
open Go.RowKit Go.Waf
theorem needLimits_any (a0 a1 : Int) (a2 : Bool) (w : World) (w0 : (Lit.int .u8 a0).wf = true) (w1 : (Lit.int .u8 a1).wf = true) :
    Calls Try.prog 3 #[.int .u8 a0, .int .u8 a1, .bool a2] w fun e w' => e = .returned (.bool true) ∧ Below w.heap.size w w' := by
  have h0 := rng_u8 w0
  have h1 := rng_u8 w1
  obtain ⟨q, hq⟩ : ∃ q : Nat, a1 % 5 = (q : Int) := ⟨(a1 % 5).toNat, by omega⟩
  have hq4 : q ≤ 4 := by omega
  rcases (by omega : a0 % 3 = 0 ∨ a0 % 3 = 1 ∨ a0 % 3 = 2) with h | h | h
  · exact needLimits_0 w a0 a1 a2 q ⟨by omega, by omega⟩ ⟨by omega, by omega⟩ h hq hq4
  · exact needLimits_1 w a0 a1 a2 q ⟨by omega, by omega⟩ ⟨by omega, by omega⟩ h hq hq4
  · exact needLimits_2 w a0 a1 a2 q ⟨by omega, by omega⟩ ⟨by omega, by omega⟩ h hq hq4
end Go.Proofs.Ytmidkomdmnncoaa
