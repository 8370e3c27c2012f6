/- A slice of structs of two integers that came in. -/
import Derived.Test.YtmidkomdmnncoaaMem3
import Derived.Deep.SlicePairs
import Derived.DataReads
namespace Go.Waf
open Go.RowKit Go.Deep Go.ChangeShapes Go.WideShapes

structure PairsAt (w : World) (k0 k1 : IntKind) (a : Option Addr) (len cap : Nat) (V N : Nat → Int) : Prop where
  le : len ≤ cap
  cap63 : cap ≤ 9223372036854775807
  nil : a = none → cap = 0
  cells : 0 < len → ∃ b off, a = some ⟨b, off, none⟩ ∧ b < w.heap.size ∧ ∀ i, i < len → w.cell? ⟨b, off + i * 2, none⟩ = some (.int k0 (V i)) ∧ w.cell? ⟨b, off + i * 2 + 1, none⟩ = some (.int k1 (N i))
  wf : ∀ i, i < len → (Lit.int k0 (V i)).wf = true ∧ (Lit.int k1 (N i)).wf = true

theorem PairsAt.below {w w' : World} {k0 k1 : IntKind} {a : Option Addr} {len cap B : Nat} {V N : Nat → Int} (h : PairsAt w k0 k1 a len cap V N) (hb : Below B w w') (hB : w.heap.size ≤ B) : PairsAt w' k0 k1 a len cap V N := by
  refine ⟨h.le, h.cap63, h.nil, fun hn => ?_, h.wf⟩
  obtain ⟨b, off, ha, hlt, hc⟩ := h.cells hn
  refine ⟨b, off, ha, Nat.lt_of_lt_of_le hlt hb.size, fun i hi => ?_⟩
  have hbl := hb.block b (by omega)
  rw [World.cell?_of_block (a := ⟨b, off + i * 2, none⟩) hbl, World.cell?_of_block (a := ⟨b, off + i * 2 + 1, none⟩) hbl]
  exact hc i hi

section
variable {H : Type} {enc : TypeId × Value → H} {P : Program} {w : World} {base : Nat} {spare : Nat → Bool} {held : Bool}
theorem pairs_open {t e : TypeId} {f0 f1 : Field} {k0 k1 : IntKind} {fuel : Nat} {a : Option Addr} {len cap : Nat} {x : DataW H × List MemPlace} (ht : P.underlying t = some (.slice e)) (he : P.underlying e = some (.struct #[f0, f1]))
    (ce : P.cellsOf e = 2) (o0 : f0.offset = 0) (o1 : f1.offset = 1) (c0 : P.cellsOf f0.type = 1) (c1 : P.cellsOf f1.type = 1) (u0 : P.underlying f0.type = some (.int k0)) (u1 : P.underlying f1.type = some (.int k1))
    (h : DataW.trod enc P w base (fun _ => true) held fuel t [.slice a len cap] = some x) : ∃ V N, PairsAt w k0 k1 a len cap V N := by
  rcases open_slice_pairs ht he ce o0 o1 c0 c1 h with ⟨hcs, _⟩ | ⟨ad, len', cap', m, n, V0, V1, D0, D1, P0, P1, hcs, hb, hl, hm, hmm, _, hi⟩
  · simp at hcs
    obtain ⟨rfl, rfl, rfl⟩ := hcs
    exact ⟨fun _ => 0, fun _ => 0, by omega, by omega, fun _ => rfl, fun h => absurd h (by omega), fun i hi => absurd hi (by omega)⟩
  · simp at hcs
    obtain ⟨rfl, rfl, rfl⟩ := hcs
    simp only [if_true] at hmm
    subst hmm
    have key : ∀ i, i < len → w.cell? (ad.add (i * 2)) = some (.int k0 (intOf (V0 i))) ∧ w.cell? (ad.add (i * 2 + 1)) = some (.int k1 (intOf (V1 i))) ∧ (Lit.int k0 (intOf (V0 i))).wf = true ∧ (Lit.int k1 (intOf (V1 i))).wf = true := by
      intro i hlt
      obtain ⟨h0, h1, h2, h3⟩ := hi i (by omega)
      obtain ⟨n0, e0, _, w0⟩ := DataW.trod_int u0 h2
      obtain ⟨n1, e1, _, w1⟩ := DataW.trod_int u1 h3
      simp only [List.cons.injEq, and_true] at e0 e1
      rw [h0, h1, e0, e1]
      exact ⟨rfl, rfl, w0, w1⟩
    refine ⟨fun i => intOf (V0 i), fun i => intOf (V1 i), hl, by simpa [maxLen] using hm, by simp, fun hn => ?_, fun i hi => (key i hi).2.2⟩
    have hs := World.cell?_spot (key 0 hn).1
    obtain ⟨b, off, sp⟩ := ad
    have hsp : sp = none := by simpa [Addr.add] using hs
    subst hsp
    have hlt := World.block_lt_of_cell? w _ (key 0 hn).1
    refine ⟨b, off, rfl, by simpa [Addr.add] using hlt, fun i hi => ?_⟩
    have := key i hi
    rw [Addr.add_lit, Addr.add_lit] at this
    exact ⟨this.1, this.2.1⟩
end
end Go.Waf
