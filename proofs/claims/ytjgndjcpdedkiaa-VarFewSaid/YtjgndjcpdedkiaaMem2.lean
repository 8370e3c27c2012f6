/- More on slices that are read, slices that are the call's own. -/
import Derived.Test.YtjgndjcpdedkiaaMem
namespace Go.Waf
open Go.RowKit
theorem owns_shape {w : World} {base e size n : Nat} {v : Value} {cs : List Value} (h : w.ownsRow base e size v n cs) : ∃ a cap, v = .slice a n cap ∧ n ≤ cap ∧ cap ≤ maxLen ∧ (a = none → cap = 0) := by
  obtain ⟨_, a, cap, hv, h1, h2, h3, _⟩ := rd_of_owns h
  exact ⟨a, cap, hv, h1, h2, h3⟩
theorem rd_shape {w : World} {size n : Nat} {v : Value} {cs : List Value} (h : Rd w size v n cs) : ∃ a cap, v = .slice a n cap ∧ n ≤ cap ∧ cap ≤ maxLen ∧ (a = none → cap = 0) := by
  obtain ⟨_, a, cap, hv, h1, h2, h3, _⟩ := h
  exact ⟨a, cap, hv, h1, h2, h3⟩
end Go.Waf
