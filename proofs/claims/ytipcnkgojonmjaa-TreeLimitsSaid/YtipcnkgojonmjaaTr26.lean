/- Trees: TreeLimits, for any arguments. -/
import Derived.Test.YtipcnkgojonmjaaTr25
namespace Go.Proofs.Ytipcnkgojonmjaa
open Go.RowKit Go.Waf
theorem treeLimits_any (a0 a1 : Int) (w : World) (w0 : (Lit.int .u8 a0).wf = true) (w1 : (Lit.int .u8 a1).wf = true) :
    Calls Try.prog 3 #[.int .u8 a0, .int .u8 a1] w fun e w' => e = .returned (.bool true) ∧ Below w.heap.size w w' := by
  have h0 := rng_u8 w0
  have h1 := rng_u8 w1
  obtain ⟨q, hq⟩ : ∃ q : Nat, a1 % 5 = (q : Int) := ⟨(a1 % 5).toNat, by omega⟩
  have hq4 : q ≤ 4 := by omega
  rcases (by omega : a0 % 5 = 0 ∨ a0 % 5 = 1 ∨ a0 % 5 = 2 ∨ a0 % 5 = 3 ∨ a0 % 5 = 4) with h | h | h | h | h
  · exact treeLimits_0 w a0 a1 q ⟨by omega, by omega⟩ ⟨by omega, by omega⟩ h hq hq4 _ rfl
  · exact treeLimits_1 w a0 a1 q ⟨by omega, by omega⟩ ⟨by omega, by omega⟩ h hq hq4 _ rfl
  · exact treeLimits_2 w a0 a1 q ⟨by omega, by omega⟩ ⟨by omega, by omega⟩ h hq hq4 _ rfl
  · exact treeLimits_3 w a0 a1 q ⟨by omega, by omega⟩ ⟨by omega, by omega⟩ h hq hq4 _ rfl
  · exact treeLimits_4 w a0 a1 q ⟨by omega, by omega⟩ ⟨by omega, by omega⟩ h hq hq4 _ rfl
end Go.Proofs.Ytipcnkgojonmjaa
