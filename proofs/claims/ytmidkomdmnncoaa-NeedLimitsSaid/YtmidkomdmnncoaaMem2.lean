/- More on slices that are read, slices that are the call's own. -/
import Derived.Test.YtmidkomdmnncoaaMem
import Derived.OpenShut
namespace Go.Waf
open Go.RowKit
theorem owns_shape {w : World} {base e size n : Nat} {v : Value} {cs : List Value} (h : w.ownsRow base e size v n cs) : ∃ a cap, v = .slice a n cap ∧ n ≤ cap ∧ cap ≤ maxLen ∧ (a = none → cap = 0) := by
  obtain ⟨_, a, cap, hv, h1, h2, h3, _⟩ := rd_of_owns h
  exact ⟨a, cap, hv, h1, h2, h3⟩
theorem rd_shape {w : World} {size n : Nat} {v : Value} {cs : List Value} (h : Rd w size v n cs) : ∃ a cap, v = .slice a n cap ∧ n ≤ cap ∧ cap ≤ maxLen ∧ (a = none → cap = 0) := by
  obtain ⟨_, a, cap, hv, h1, h2, h3, _⟩ := h
  exact ⟨a, cap, hv, h1, h2, h3⟩
/-- An argument's slice of integers. -/
theorem rd_of_row {w : World} {a : Option Addr} {len cap : Nat} {zs : List Int} {k : IntKind}
    (h : (a = none ∧ len = 0 ∧ cap = 0 ∧ zs = []) ∨ ∃ x, a = some x ∧ len ≤ cap ∧ cap ≤ maxLen ∧ zs.length = cap ∧ (∀ i, i < zs.length → w.cell? (x.add i) = some (.int k (zs.getD i 0))) ∧ ∀ n ∈ zs, (Lit.int k n).wf = true) :
    Rd w 1 (.slice a len cap) len ((zs.take len).map (Value.int k)) ∧ (∀ n ∈ zs.take len, (Lit.int k n).wf = true) ∧ (zs.take len).length = len := by
  rcases h with ⟨rfl, rfl, rfl, rfl⟩ | ⟨x, rfl, h1, h2, h3, h4, h5⟩
  · exact ⟨by simpa using Rd.nil w 1, by simp, rfl⟩
  · have hl : (zs.take len).length = len := by rw [List.length_take]; omega
    refine ⟨⟨by simp [h3, h1], _, _, rfl, h1, h2, by simp, fun hn => ?_⟩, fun n hn => h5 n (List.mem_of_mem_take hn), hl⟩
    obtain ⟨b, off, rfl, hc⟩ := ints_at h4 (by omega)
    refine ⟨b, off, rfl, fun j u hu => ?_⟩
    rw [List.getElem?_map, List.getElem?_take] at hu
    split at hu
    · have hj : j < zs.length := by omega
      rw [List.getElem?_eq_getElem hj] at hu
      simp only [Option.map_some, Option.some.injEq] at hu
      rw [hc j hj, ← hu]
      simp [List.getD, hj]
    · simp at hu
theorem Rd.full {w : World} {size n cap : Nat} {a : Option Addr} {cs : List Value} (h : Rd w size (.slice a n cap) n cs) : Rd w size (.slice a n n) n cs := by
  obtain ⟨hl, a', c, he, h1, h2, h3, h4⟩ := h
  cases he
  exact ⟨hl, a, n, rfl, Nat.le_refl _, by omega, fun ha => by have := h3 ha; omega, h4⟩
/-- What a law is told of a slice of integers that came in (the frame's IsRow, written out). -/
def RowOf (k : IntKind) (w : World) (a : Option Addr) (len cap : Nat) (zs : List Int) : Prop :=
  (a = none ∧ len = 0 ∧ cap = 0 ∧ zs = []) ∨ ∃ x, a = some x ∧ len ≤ cap ∧ cap ≤ maxLen ∧ zs.length = cap ∧ (∀ i, i < zs.length → w.cell? (x.add i) = some (.int k (zs.getD i 0))) ∧ ∀ n ∈ zs, (Lit.int k n).wf = true
theorem RowOf.bounds {k : IntKind} {w : World} {a : Option Addr} {len cap : Nat} {zs : List Int} (h : RowOf k w a len cap zs) : len ≤ cap ∧ cap ≤ 9223372036854775807 := by
  rcases h with ⟨_, rfl, rfl, _⟩ | ⟨x, _, h1, h2, _⟩
  · omega
  · unfold maxLen at h2; omega
theorem RowOf.rd {k : IntKind} {w : World} {a : Option Addr} {len cap : Nat} {zs : List Int} (h : RowOf k w a len cap zs) : Rd w 1 (.slice a len cap) len ((zs.take len).map (Value.int k)) := (rd_of_row h).1
theorem RowOf.wf {k : IntKind} {w : World} {a : Option Addr} {len cap : Nat} {zs : List Int} (h : RowOf k w a len cap zs) : ∀ n ∈ zs.take len, (Lit.int k n).wf = true := (rd_of_row h).2.1
theorem RowOf.len {k : IntKind} {w : World} {a : Option Addr} {len cap : Nat} {zs : List Int} (h : RowOf k w a len cap zs) : (zs.take len).length = len := (rd_of_row h).2.2
end Go.Waf
