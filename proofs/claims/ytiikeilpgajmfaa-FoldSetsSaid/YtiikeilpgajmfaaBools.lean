/- A slice of truths that came in. -/
import Derived.Test.YtiikeilpgajmfaaMem3
import Derived.Deep.Grids
import Derived.DataReads
namespace Go.Waf
open Go.RowKit Go.Deep Go.ChangeShapes Go.WideShapes
/-- A slice of truths: its first len cells. -/
def BoolsAt (w : World) (a : Option Addr) (len cap : Nat) (bs : List Bool) : Prop :=
  Rd w 1 (.slice a len cap) len (bs.map Value.bool) ∧ len ≤ cap ∧ cap ≤ 9223372036854775807
section
variable {H : Type} {enc : TypeId × Value → H} {P : Program} {w : World} {base : Nat} {held : Bool}
theorem bools_open {t e : TypeId} {fuel : Nat} {a : Option Addr} {len cap : Nat} {x : DataW H × List MemPlace} (ht : P.underlying t = some (.slice e)) (he : P.underlying e = some .bool)
    (ce : P.cellsOf e = 1) (h : DataW.trod enc P w base (fun _ => true) held fuel t [.slice a len cap] = some x) : ∃ bs, BoolsAt w a len cap bs := by
  rcases open_bools ht he ce h with ⟨hcs, _⟩ | ⟨ad, len', cap', Bf, hcs, hb, hl, hm, _, hi⟩
  · simp at hcs
    obtain ⟨rfl, rfl, rfl⟩ := hcs
    exact ⟨[], by simpa using Rd.nil w 1, by omega, by omega⟩
  · simp at hcs
    obtain ⟨rfl, rfl, rfl⟩ := hcs
    refine ⟨(List.range len).map Bf, ⟨by simp, _, _, rfl, hl, hm, by simp, fun hn => ?_⟩, hl, by simpa [maxLen] using hm⟩
    obtain ⟨b, off, sp⟩ := ad
    have hsp : sp = none := by simpa [Addr.add] using World.cell?_spot (hi 0 (by omega))
    subst hsp
    refine ⟨b, off, rfl, fun j u hu => ?_⟩
    have hj : j < len := by
      have := (List.getElem?_eq_some_iff.1 hu).1
      simpa using this
    have h1 := hi j (by omega)
    rw [Addr.add_lit] at h1
    rw [h1]
    simp [hj] at hu
    rw [hu]
end
end Go.Waf
