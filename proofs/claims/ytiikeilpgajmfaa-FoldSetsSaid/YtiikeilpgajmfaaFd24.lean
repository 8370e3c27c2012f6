/- Fold: two sets in the making, each a row of elements; what the adding to one leaves. -/
import Derived.Test.YtiikeilpgajmfaaFd23
namespace Go.Proofs.Ytiikeilpgajmfaa
open Go.RowKit Go.Waf
set_option maxRecDepth 100000
set_option linter.unusedVariables false
set_option linter.unusedSimpArgs false

def bls (l : List Bool) : List Value := l.map Value.bool
abbrev exZ : Array Value := #[.int .i64 0, .int .i64 0, .int .i64 0, .string ByteArray.empty, .slice none 0 0, .int .i32 0, .string ByteArray.empty, .slice none 0 0]
theorem elemExpr : Elem Try.prog 25 27 8 112 := Elem.mk' (z := .agg #[.int .i64 0, .int .i64 0, .int .i64 0, .string ByteArray.empty, .slice none 0 0, .int .i32 0, .string ByteArray.empty, .slice none 0 0]) Try.underlying25 (by kernel_rfl) rfl (by decide)
theorem belAl {wo V : World} (hb : Below wo.heap.size wo V) (o : Obj) : Below wo.heap.size wo (V.alloc o) := hb.alloc hb.size o
theorem setRow_same {w : World} {g : Nat} {old : Array Value} {t : TypeId} (cs : Array Value) (hg : w.heap[g]? = some (.cells old t (0, 0))) : (w.setRow g cs).heap[g]? = some (.cells cs t (0, 0)) := setRow_heap w g old cs t (0, 0) hg
/-- Both sets, apart. -/
structure Two (w0 w : World) (eb rb : Nat) (ev rv : Value) (l m : List El) : Prop where
  e : ERow w0 w eb ev l
  r : ERow w0 w rb rv m
  ap : ∀ k, rv.ownBlock = some k → ev.ownBlock ≠ some k
  rn : rv.ownBlock ≠ some eb
  en : ev.ownBlock ≠ some rb
  ne : eb ≠ rb
  le : ∀ d ∈ l, rv.ownBlock ≠ some d.blk ∧ d.blk ≠ rb
  me : ∀ d ∈ m, ev.ownBlock ≠ some d.blk ∧ d.blk ≠ eb
  old : Below w0.heap.size w0 w
theorem Two.symm {w0 w : World} {eb rb : Nat} {ev rv : Value} {l m : List El} (h : Two w0 w eb rb ev rv l m) : Two w0 w rb eb rv ev m l :=
  ⟨h.r, h.e, fun k h1 h2 => h.ap k h2 h1, h.en, h.rn, fun e => h.ne e.symm, h.me, h.le, h.old⟩
theorem Two.below {w0 w w' : World} {eb rb : Nat} {ev rv : Value} {l m : List El} (h : Two w0 w eb rb ev rv l m) (hb : Below w.heap.size w w') : Two w0 w' eb rb ev rv l m :=
  ⟨h.e.below hb, h.r.below hb, h.ap, h.rn, h.en, h.ne, h.le, h.me, h.old.trans (hb.mono h.old.size)⟩
theorem Two.add {w0 w w2 w3 : World} {eb rb : Nat} {ev v3 rv : Value} {l m k : List El} (h : Two w0 w eb rb ev rv l m) (hb : Below w.heap.size w w2) (ho : w3.ownsRow w0.heap.size 27 8 v3 (l.length + k.length) (elCells l ++ elCells k)) (hg : w2.grownBy w3 ev.ownBlock)
    (hl : ∀ b, v3.ownBlock = some b → ev.ownBlock = some b ∨ w2.heap.size ≤ b) (hk : ∀ d ∈ k, w2.heap[d.blk]? = some (.cells d.kids 27 (0, 0)) ∧ w.heap.size ≤ d.blk ∧ d.In) : Two w0 (w3.setCell ⟨eb, 7, none⟩ v3) eb rb v3 rv (l ++ k) m := by
  have hs := hb.size
  have elt := h.e.lt
  have rlt := h.r.lt
  have hrl : ∀ b, rv.ownBlock = some b → b < w.heap.size := fun b hb => (h.r.row.lt b hb).2
  have hml : ∀ d ∈ m, d.blk < w.heap.size := fun d hd => (Array.getElem?_eq_some_iff.1 (h.r.kids d hd).1).1
  have hfr := ERow.add_fr (w0 := w0) (eb := eb) (v3 := v3) hb hg
  have hold : Below w0.heap.size w0 (w3.setCell ⟨eb, 7, none⟩ v3) := h.old.trans (hfr.below h.old.size fun i hi hf => by
    rcases hf with rfl | hf
    · have := h.e.base; omega
    · have := (h.e.row.lt i hf).1; omega)
  refine ⟨h.e.add hb ho hg hl hk, h.r.keep hfr ?_ ?_ ?_, fun b h1 h2 => ?_, h.rn, fun h1 => ?_, h.ne, fun d hd => ?_, fun d hd => ⟨fun h1 => ?_, (h.me d hd).2⟩, hold⟩
  · rintro (e | e)
    · exact h.ne e.symm
    · exact h.en e
  · rintro b hb (e | e)
    · exact h.rn (by rw [hb, e])
    · exact h.ap b hb e
  · rintro d hd (e | e)
    · exact (h.me d hd).2 e
    · exact (h.me d hd).1 e
  · rcases hl b h2 with h3 | h3
    · exact h.ap b h1 h3
    · have := hrl b h1; omega
  · rcases hl rb h1 with h3 | h3
    · exact h.en h3
    · omega
  · rcases List.mem_append.1 hd with hd | hd
    · exact h.le d hd
    · obtain ⟨_, k2, _⟩ := hk d hd
      exact ⟨fun e => by have := hrl _ e; omega, by omega⟩
  · rcases hl _ h1 with h3 | h3
    · exact (h.me d hd).1 h3
    · have := hml d hd; omega
/-- The cells of an element are one cell each. -/
theorem elCells_one (l : List El) : ∀ u ∈ elCells l, u.oneCell' = true := by
  intro u hu
  obtain ⟨d, _, hd⟩ := List.mem_flatMap.1 hu
  simp only [El.cells, List.mem_cons, List.not_mem_nil, or_false] at hd
  rcases hd with rfl | rfl | rfl | rfl | rfl | rfl | rfl | rfl <;> rfl
end Go.Proofs.Ytiikeilpgajmfaa
