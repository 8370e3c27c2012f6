/- Order: the program's visit. -/
import Derived.Test.YtelpnbjnjfajdaaOdr3
import Derived.Maps.OwnSet
import Derived.Maps.OwnOps
import Derived.Laws.OwnMore
import Derived.StringKeys
namespace Go.Proofs.Ytelpnbjnjfajdaa
open Go.RowKit Go.Waf Go.Maps
set_option maxRecDepth 100000
set_option linter.unusedVariables false

theorem lawS : Keyed Try.prog 9 := string_keyed Try.underlying9
theorem zeroI (w : World) : (zeroValue 3).run Try.prog w = .ok (.int .i64 0) w := by kernel_rfl
def keyS (x : ByteArray) : Lit := .string x.data.toList
theorem key_of (x : ByteArray) (h : x.size ≤ 1000) : keyOf Try.prog 9 (.string x) = some (keyS x) := WideMaps.keyOf_string_mk Try.underlying9 (by unfold maxLen; omega)
def boolsA (n : Nat) (f : Nat → Bool) : Array Value := ((List.range n).map fun j => Value.bool (f j)).toArray
theorem boolsA_get (n : Nat) (f : Nat → Bool) (j : Nat) (h : j < n) : (boolsA n f)[j]? = some (.bool (f j)) := by simp [boolsA, h]
theorem boolsA_set (n : Nat) (f : Nat → Bool) (i : Nat) : (boolsA n f).setIfInBounds i (.bool true) = boolsA n (upd f i) := by
  apply Array.ext
  · simp [boolsA]
  · intro j h1 h2
    by_cases h : i = j
    · subst h; simp [boolsA, upd]
    · have h' : ¬ j = i := fun e => h e.symm
      simp [boolsA, upd, h, h']
def MapOk (M : Nat → Md) (n : Nat) (D : DataW Unit) : Prop := ∀ x, 0 ≤ atN M n x → D.atKey (keyS x) (.lit (.int .i64 0)) = .lit (.int .i64 (atN M n x))
structure PW (w0 w : World) (q mb ob : Nat) (a : Option Addr) (n cap : Nat) (M : Nat → Md) (ov : Value) (s : St) : Prop where
  blk : w.heap[q]? = some (.cells #[.slice a n cap, .map (some mb), .slice (some ⟨ob, 0, none⟩) n n, ov] 54 (0, 0))
  map : ∃ D, w.ownsMap Try.prog 9 (plainElem (H := Unit) Try.prog 3) mb 100 D ∧ MapOk M n D
  on : w.heap[ob]? = some (.cells (boolsA n s.on) 4 (0, 0))
  row : w.ownsRow w0.heap.size 3 1 ov s.out.length (nats s.out)
  bq : w0.heap.size ≤ q
  bm : w0.heap.size ≤ mb
  bo : w0.heap.size ≤ ob
  qm : q ≠ mb
  qo : q ≠ ob
  mo : mb ≠ ob
  tq : ov.ownBlock ≠ some q
  tm : ov.ownBlock ≠ some mb
  to : ov.ownBlock ≠ some ob
  room : s.out.length + free s.on n ≤ n
  old : Below w0.heap.size w0 w
theorem PW.mods {w0 w : World} {q mb ob n cap : Nat} {a : Option Addr} {M : Nat → Md} {ov : Value} {s : St} (h : PW w0 w q mb ob a n cap M ov s) (hp : ModsAt w0 a n cap M) : ModsAt w a n cap M := hp.below h.old (Nat.le_refl _)
theorem PW.lt {w0 w : World} {q mb ob n cap : Nat} {a : Option Addr} {M : Nat → Md} {ov : Value} {s : St} (h : PW w0 w q mb ob a n cap M ov s) : q < w.heap.size ∧ mb < w.heap.size ∧ ob < w.heap.size :=
  ⟨(Array.getElem?_eq_some_iff.1 h.blk).1, let ⟨_, hm, _⟩ := h.map; hm.lt, (Array.getElem?_eq_some_iff.1 h.on).1⟩
theorem PW.below {w0 w w' : World} {q mb ob n cap B : Nat} {a : Option Addr} {M : Nat → Md} {ov : Value} {s : St} (h : PW w0 w q mb ob a n cap M ov s) (hb : Below B w w') (hB : w.heap.size ≤ B) : PW w0 w' q mb ob a n cap M ov s := by
  obtain ⟨l1, l2, l3⟩ := h.lt
  obtain ⟨D, m1, m2⟩ := h.map
  have hs := h.old.size
  refine ⟨by rw [hb.block q (by omega)]; exact h.blk, ⟨D, m1.kept (w' := w') (row := none) ⟨hb.os, hb.tape, hb.output, hb.size, fun j hj _ => hb.block j (by omega)⟩ (by simp), m2⟩, by rw [hb.block ob (by omega)]; exact h.on, ?_, h.bq, h.bm, h.bo, h.qm, h.qo, h.mo, h.tq, h.tm, h.to, h.room, h.old.trans (hb.mono (by omega))⟩
  exact (Fr.of_below hb).owns h.row fun k hk hf => by have := h.row.lt k hk; omega
/-- i is under way. -/
theorem PW.mark {w0 w : World} {q mb ob n cap : Nat} {a : Option Addr} {M : Nat → Md} {ov : Value} {s : St} (h : PW w0 w q mb ob a n cap M ov s) (i : Nat) (hi : i < n) (hon : s.on i = false) :
    PW w0 (w.setCell ⟨ob, i, none⟩ (.bool true)) q mb ob a n cap M ov (s.mark i) := by
  obtain ⟨D, m1, m2⟩ := h.map
  have hf := free_upd s.on i hon n hi
  have hr := h.room
  refine ⟨by rw [Below.heap_setCell w _ _ q h.qo]; exact h.blk, ⟨D, m1.setCell (by exact h.mo) _, m2⟩, by rw [heap_setCell_same w ob i _ _ _ h.on, boolsA_set]; rfl, owns_set_other h.row _ _ h.to, h.bq, h.bm, h.bo, h.qm, h.qo, h.mo, h.tq, h.tm, h.to, ?_, h.old.setCell h.bo _⟩
  simp only [St.mark]; omega

section
variable {w0 w : World} {q mb ob n cap : Nat} {a : Option Addr} {M : Nat → Md} {ov : Value} {s : St}
set_option maxHeartbeats 3200000 in
theorem visit_in (hn : n ≤ 1000) (hW : PW w0 w q mb ob a n cap M ov s) (i : Nat) (hi : i < n) (h : i ∈ s.out) :
    Calls Try.prog 13 #[.pointer (some ⟨q, 0, none⟩), .int .i64 (i : Int)] w fun e w' => e = .returned (.bool true) ∧ w' = w := by
  obtain ⟨oa, oc, rfl, o1, o2, o3⟩ := owns_shape hW.row
  have c3 : w.cell? ⟨q, 3, none⟩ = some (.slice oa s.out.length oc) := by rw [cell_of_row w q 3 _ _ _ hW.blk]; rfl
  have HC := Lib.hid (contains_in w _ s.out i (rd_of_owns hW.row))
  rw [show decide (i ∈ s.out) = true from decide_eq_true h] at HC
  clear hW
  go_enter Try.func13, Try.ntmps13
  go_wp2_with fail
  refine HC.out.mono ?_
  rintro e w1 ⟨rfl, rfl⟩
  go_wp2_with fail
  all_goals (try go_ret)
  all_goals exact ⟨rfl, rfl⟩
set_option maxHeartbeats 3200000 in
theorem visit_on (hn : n ≤ 1000) (hW : PW w0 w q mb ob a n cap M ov s) (i : Nat) (hi : i < n) (h : i ∉ s.out) (hon : s.on i = true) :
    Calls Try.prog 13 #[.pointer (some ⟨q, 0, none⟩), .int .i64 (i : Int)] w fun e w' => e = .returned (.bool false) ∧ w' = w := by
  obtain ⟨oa, oc, rfl, o1, o2, o3⟩ := owns_shape hW.row
  have c3 : w.cell? ⟨q, 3, none⟩ = some (.slice oa s.out.length oc) := by rw [cell_of_row w q 3 _ _ _ hW.blk]; rfl
  have c2 : w.cell? ⟨q, 2, none⟩ = some (.slice (some ⟨ob, 0, none⟩) n n) := by rw [cell_of_row w q 2 _ _ _ hW.blk]; rfl
  have co : w.cell? ⟨ob, i, none⟩ = some (.bool true) := by rw [cell_of_row w ob i _ _ _ hW.on, boolsA_get _ _ _ hi, hon]
  have HC := Lib.hid (contains_in w _ s.out i (rd_of_owns hW.row))
  rw [show decide (i ∈ s.out) = false from decide_eq_false h] at HC
  clear hW
  go_enter Try.func13, Try.ntmps13
  go_wp2_with fail
  refine HC.out.mono ?_
  rintro e w1 ⟨rfl, rfl⟩
  go_wp2_with fail
  all_goals (try go_ret)
  all_goals exact ⟨rfl, rfl⟩
end
end Go.Proofs.Ytelpnbjnjfajdaa
