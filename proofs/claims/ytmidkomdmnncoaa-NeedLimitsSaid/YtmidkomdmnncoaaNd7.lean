/- Need: a set of names that a call keeps in a map. -/
import Derived.Test.YtmidkomdmnncoaaNd6
import Derived.Maps.OwnSet
import Derived.Maps.OwnOps
import Derived.Laws.OwnMore
import Derived.StringKeys
namespace Go.Proofs.Ytmidkomdmnncoaa
open Go.RowKit Go.Waf Go.Maps Go.WideAt
set_option maxRecDepth 100000
set_option linter.unusedVariables false
set_option linter.unusedSimpArgs false

theorem lawS : Keyed Try.prog 9 := string_keyed Try.underlying9
def keyS (x : ByteArray) : Lit := .string x.data.toList
theorem key_of (x : ByteArray) (h : x.size ≤ 1000) : keyOf Try.prog 9 (.string x) = some (keyS x) := WideMaps.keyOf_string_mk Try.underlying9 (by unfold maxLen; omega)
theorem keyS_eq {x y : ByteArray} : keyS x = keyS y ↔ x.data.toList = y.data.toList := by
  unfold keyS
  rw [Lit.string.injEq]
theorem zeroB (w : World) : (zeroValue 4).run Try.prog w = .ok (.bool false) w := by kernel_rfl
theorem plainElem_bool_inv {e : TypeId} (he : Try.prog.underlying e = some .bool) {v : Value} {z : DataW Unit × List MemPlace} (h : plainElem Try.prog e v = some z) : ∃ a, v = .bool a ∧ z = (.lit (.bool a), []) := by
  unfold plainElem at h
  rw [he] at h
  cases v <;> simp at h
  exact ⟨_, rfl, h.symm⟩
/-- The names of l have been seen: the map at mb says so. -/
def Seen (w : World) (mb : Nat) (l : List (List UInt8)) : Prop := ∃ (k : Nat) (D : DataW Unit), k = l.length ∧ w.ownsMap Try.prog 9 (plainElem (H := Unit) Try.prog 4) mb k D ∧ IsMap D ∧ ∀ x : ByteArray, D.atKey (keyS x) (.lit (.bool false)) = .lit (.bool (decide (x.data.toList ∈ l)))
theorem Seen.look {w : World} {mb : Nat} {l : List (List UInt8)} (h : Seen w mb l) (x : ByteArray) (hx : x.size ≤ 1000) : (Instr.lookup 65 (.map (some mb)) (.string x) false).run Try.prog w = .ok (.bool (decide (x.data.toList ∈ l))) w := by
  obtain ⟨k, D, _, ho, _, ha⟩ := h
  obtain ⟨v, ps, hrun, hv⟩ := ho.lookup lawS Try.underlying65 (zeroB w) (plainElem_bool Try.underlying4 false) (key_of x hx)
  rw [ha x] at hv
  obtain ⟨a, rfl, he⟩ := plainElem_bool_inv Try.underlying4 hv
  simp only [Prod.mk.injEq, DataW.lit.injEq, Lit.bool.injEq] at he
  rw [hrun, he.1]
theorem Seen.put {w : World} {mb : Nat} {l : List (List UInt8)} (h : Seen w mb l) (hl : l.length ≤ 1000) (x : ByteArray) (hx : x.size ≤ 1000) : ∃ w', (Instr.mapUpdate 65 (.map (some mb)) (.string x) (.bool true)).run Try.prog w = .ok () w' ∧ Seen w' mb (x.data.toList :: l) ∧ w.grownBy w' (some mb) := by
  obtain ⟨k, D, hk, ho, hm, ha⟩ := h
  obtain ⟨w', hup, ho', hg⟩ := ho.update lawS Try.underlying65 (by unfold maxLen; omega) (key_of x hx) (plainElem_bool Try.underlying4 true)
  refine ⟨w', hup, ⟨k + 1, _, by rw [hk]; rfl, ho', hm.put _ _, fun y => ?_⟩, hg⟩
  by_cases he : keyS y = keyS x
  · rw [he, atKey_put_same hm (show WideAt.IsKeyLit (keyS _) from trivial)]
    have := keyS_eq.1 he
    simp [this]
  · rw [atKey_put_other he, ha y]
    have : ¬ y.data.toList = x.data.toList := fun e => he (keyS_eq.2 e)
    simp [this]
theorem Seen.keep {w w' : World} {mb : Nat} {l : List (List UInt8)} (h : Seen w mb l) (hg : w.grownBy w' none) : Seen w' mb l := by
  obtain ⟨k, D, hk, ho, hm, ha⟩ := h
  exact ⟨k, D, hk, ho.kept hg (by simp), hm, ha⟩
theorem Seen.made (w : World) : Seen (w.alloc (.map #[] 0)) w.heap.size [] := ⟨0, .map [], rfl, World.ownsMap_made w _ _ _, isMap_empty, fun x => rfl⟩
end Go.Proofs.Ytmidkomdmnncoaa
