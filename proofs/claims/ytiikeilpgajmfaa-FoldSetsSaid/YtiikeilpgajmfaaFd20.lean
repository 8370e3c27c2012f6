/- Fold: rows of elements and spans. -/
import Derived.Test.YtiikeilpgajmfaaFd16
import Derived.Test.YtiikeilpgajmfaaFd19
import Derived.Laws.OwnMore
namespace Go.Proofs.Ytiikeilpgajmfaa
open Go.RowKit Go.Waf
set_option maxRecDepth 100000
set_option linter.unusedVariables false
set_option linter.unusedSimpArgs false

/-- An element, or a span: its numbers, the block of its parts. -/
structure El where
  two : Bool
  a : Int
  b : Int
  blk : Nat
def El.k (d : El) : Nat := if d.two = true then 2 else 1
def El.op (d : El) : Int := if d.two = true then 26 else 25
def El.ex (d : El) : Ex := .mk d.op (tyF 0) 0 ByteArray.empty d.k (fun j => if j = 1 then numE 1 d.b else numE 1 d.a)
def El.cells (d : El) : List Value := [.int .i64 d.op, .int .i64 0, .int .i64 0, .string ByteArray.empty, .slice none 0 0, .int .i32 0, .string ByteArray.empty, .slice (some ⟨d.blk, 0, none⟩) d.k d.k]
def El.kids (d : El) : Array Value := if d.two = true then #[.int .i64 0, .int .i64 1, .int .i64 0, .string ByteArray.empty, .slice none 0 0, .int .i32 d.a, .string ByteArray.empty, .slice none 0 0, .int .i64 0, .int .i64 1, .int .i64 0, .string ByteArray.empty, .slice none 0 0, .int .i32 d.b, .string ByteArray.empty, .slice none 0 0]
  else #[.int .i64 0, .int .i64 1, .int .i64 0, .string ByteArray.empty, .slice none 0 0, .int .i32 d.a, .string ByteArray.empty, .slice none 0 0]
def El.In (d : El) : Prop := (-2147483648 ≤ d.a ∧ d.a ≤ 2147483647) ∧ (-2147483648 ≤ d.b ∧ d.b ≤ 2147483647)
def elCells (l : List El) : List Value := l.flatMap El.cells
theorem elCells_length : ∀ l : List El, (elCells l).length = l.length * 8
  | [] => rfl
  | d :: l => by
    show (El.cells d ++ elCells l).length = _
    rw [List.length_append, elCells_length l]
    simp [El.cells]; omega
theorem elCells_append (l m : List El) : elCells (l ++ m) = elCells l ++ elCells m := List.flatMap_append
theorem elCells_get : ∀ (l : List El) (j i : Nat) (d : El), l[j]? = some d → i < 8 → (elCells l)[j * 8 + i]? = d.cells[i]?
  | [], j, i, d, h, _ => by simp at h
  | e :: l, 0, i, d, h, hi => by
    have : e = d := by simpa using h
    subst this
    show (El.cells e ++ elCells l)[0 * 8 + i]? = _
    rw [Nat.zero_mul, Nat.zero_add, List.getElem?_append_left (by simp [El.cells]; omega)]
  | e :: l, j + 1, i, d, h, hi => by
    show (El.cells e ++ elCells l)[(j + 1) * 8 + i]? = _
    have e8 : (El.cells e).length = 8 := rfl
    rw [List.getElem?_append_right (by rw [e8]; omega), e8, show (j + 1) * 8 + i - 8 = j * 8 + i from by omega]
    exact elCells_get l j i d (by simpa using h) hi
abbrev setArr (ev : Value) : Array Value := #[.int .i64 24, .int .i64 4, .int .i64 0, .string ByteArray.empty, .slice none 0 0, .int .i32 0, .string ByteArray.empty, ev]
/-- A set's expression at eb, its elements a row of its own. -/
structure ERow (w0 w : World) (eb : Nat) (ev : Value) (l : List El) : Prop where
  blk : w.heap[eb]? = some (.cells (setArr ev) 27 (0, 0))
  row : w.ownsRow w0.heap.size 27 8 ev l.length (elCells l)
  base : w0.heap.size ≤ eb
  ne : ev.ownBlock ≠ some eb
  kids : ∀ d ∈ l, w.heap[d.blk]? = some (.cells d.kids 27 (0, 0)) ∧ ev.ownBlock ≠ some d.blk ∧ d.blk ≠ eb ∧ d.In
theorem ERow.lt {w0 w : World} {eb : Nat} {ev : Value} {l : List El} (h : ERow w0 w eb ev l) : eb < w.heap.size := (Array.getElem?_eq_some_iff.1 h.blk).1
/-- What turns nothing of it keeps it. -/
theorem ERow.keep {w0 w w' : World} {eb : Nat} {ev : Value} {l : List El} {F : Nat → Prop} (h : ERow w0 w eb ev l) (hf : Fr F w w') (h1 : ¬ F eb) (h2 : ∀ k, ev.ownBlock = some k → ¬ F k) (h3 : ∀ d ∈ l, ¬ F d.blk) : ERow w0 w' eb ev l :=
  ⟨by rw [hf.block eb h.lt h1]; exact h.blk, hf.owns h.row h2, h.base, h.ne, fun d hd => by
    obtain ⟨k1, k2, k3, k4⟩ := h.kids d hd
    exact ⟨by rw [hf.block _ (Array.getElem?_eq_some_iff.1 k1).1 (h3 d hd)]; exact k1, k2, k3, k4⟩⟩
theorem ERow.below {w0 w w' : World} {eb : Nat} {ev : Value} {l : List El} (h : ERow w0 w eb ev l) (hb : Below w.heap.size w w') : ERow w0 w' eb ev l :=
  h.keep (F := fun k => w.heap.size ≤ k) ⟨hb.os, hb.tape, hb.output, hb.size, fun i hi _ => hb.block i hi⟩ (by have := h.lt; omega) (fun k hk => by have := (h.row.lt k hk).2; omega) (fun d hd => by have := (Array.getElem?_eq_some_iff.1 (h.kids d hd).1).1; omega)
def setE (l : List El) : Ex := .mk 24 (tyF 4) 0 ByteArray.empty l.length (fun j => ((l[j]?).map El.ex).getD .none)
theorem El.ok {w : World} {d : El} (h : w.heap[d.blk]? = some (.cells d.kids 27 (0, 0))) : ExOk w d.ex (.slice none 0 0) (.slice (some ⟨d.blk, 0, none⟩) d.k d.k) := by
  obtain ⟨two, a, b, blk⟩ := d
  cases two with
  | true =>
    refine ⟨TyOk.leaf w 0, _, _, rfl, Nat.le_refl _, (by decide : (2 : Nat) ≤ 9223372036854775807), fun _ => ⟨_, 0, rfl, fun j hj => ?_⟩⟩
    have hj2 : j < 2 := hj
    rcases (by omega : j = 0 ∨ j = 1) with rfl | rfl
    · exact ⟨_, _, ExOk.num w 1 a, num_cells fun i hi => by
        match i, hi with
        | 0, _ => exact row8 h 0 _ rfl | 1, _ => exact row8 h 1 _ rfl | 2, _ => exact row8 h 2 _ rfl | 3, _ => exact row8 h 3 _ rfl | 4, _ => exact row8 h 4 _ rfl | 5, _ => exact row8 h 5 _ rfl | 6, _ => exact row8 h 6 _ rfl | 7, _ => exact row8 h 7 _ rfl⟩
    · exact ⟨_, _, ExOk.num w 1 b, num_cells fun i hi => by
        match i, hi with
        | 0, _ => exact row8 h 8 _ rfl | 1, _ => exact row8 h 9 _ rfl | 2, _ => exact row8 h 10 _ rfl | 3, _ => exact row8 h 11 _ rfl | 4, _ => exact row8 h 12 _ rfl | 5, _ => exact row8 h 13 _ rfl | 6, _ => exact row8 h 14 _ rfl | 7, _ => exact row8 h 15 _ rfl⟩
  | false =>
    refine ⟨TyOk.leaf w 0, _, _, rfl, Nat.le_refl _, (by decide : (1 : Nat) ≤ 9223372036854775807), fun _ => ⟨_, 0, rfl, fun j hj => ?_⟩⟩
    have hj2 : j < 1 := hj
    obtain rfl : j = 0 := by omega
    exact ⟨_, _, ExOk.num w 1 a, num_cells fun i hi => by
      match i, hi with
      | 0, _ => exact row8 h 0 _ rfl | 1, _ => exact row8 h 1 _ rfl | 2, _ => exact row8 h 2 _ rfl | 3, _ => exact row8 h 3 _ rfl | 4, _ => exact row8 h 4 _ rfl | 5, _ => exact row8 h 5 _ rfl | 6, _ => exact row8 h 6 _ rfl | 7, _ => exact row8 h 7 _ rfl⟩
theorem ERow.ok {w0 w : World} {eb : Nat} {ev : Value} {l : List El} (h : ERow w0 w eb ev l) : ExOk w (setE l) (.slice none 0 0) ev := by
  obtain ⟨_, a, cap, rfl, p1, p2, _, p4⟩ := rd_of_owns h.row
  refine ⟨TyOk.leaf w 4, a, cap, rfl, p1, by simpa [maxLen] using p2, fun hk => ?_⟩
  obtain ⟨b, o, rfl, hc⟩ := p4 hk
  refine ⟨b, o, rfl, fun j hj => ?_⟩
  obtain ⟨d, hd⟩ : ∃ d, l[j]? = some d := ⟨l[j], List.getElem?_eq_getElem hj⟩
  obtain ⟨k1, _, _, _⟩ := h.kids d (List.mem_of_getElem? hd)
  have hx : (setE l).x j = d.ex := by show ((l[j]?).map El.ex).getD .none = _; rw [hd]; rfl
  refine ⟨.slice none 0 0, .slice (some ⟨d.blk, 0, none⟩) d.k d.k, ?_, ?_⟩
  · show ExOk w ((setE l).x j) _ _
    rw [hx]; exact El.ok k1
  · show ExCells w b (o + j * 8) ((setE l).x j) _ _
    rw [hx]
    have hg := fun i (u : Value) (hi : i < 8) (hu : d.cells[i]? = some u) => hc (j * 8 + i) u ((elCells_get l j i d hd hi).trans hu)
    exact ⟨hg 0 _ (by decide) rfl, hg 1 _ (by decide) rfl, hg 2 _ (by decide) rfl, hg 3 _ (by decide) rfl, hg 4 _ (by decide) rfl, hg 5 _ (by decide) rfl, hg 6 _ (by decide) rfl, hg 7 _ (by decide) rfl⟩
theorem ERow.fit {w0 w : World} {eb : Nat} {ev : Value} {l : List El} (h : ERow w0 w eb ev l) : Fit (setE l) := ⟨⟨by decide, by decide⟩, fun j hj => by
  obtain ⟨d, hd⟩ : ∃ d, l[j]? = some d := ⟨l[j], List.getElem?_eq_getElem hj⟩
  obtain ⟨_, _, _, k4⟩ := h.kids d (List.mem_of_getElem? hd)
  show Fit (((l[j]?).map El.ex).getD .none)
  rw [hd]
  show Fit d.ex
  refine ⟨⟨by decide, by decide⟩, fun i hi => ?_⟩
  show Fit (if i = 1 then numE 1 d.b else numE 1 d.a)
  split
  · exact ⟨k4.2, fun i hi => absurd hi (by omega)⟩
  · exact ⟨k4.1, fun i hi => absurd hi (by omega)⟩⟩
/-- More elements. -/
theorem ERow.add {w0 w w2 w3 : World} {eb : Nat} {ev v3 : Value} {l m : List El} (h : ERow w0 w eb ev l) (hb : Below w.heap.size w w2) (ho : w3.ownsRow w0.heap.size 27 8 v3 (l.length + m.length) (elCells l ++ elCells m)) (hg : w2.grownBy w3 ev.ownBlock)
    (hl : ∀ k, v3.ownBlock = some k → ev.ownBlock = some k ∨ w2.heap.size ≤ k) (hm : ∀ d ∈ m, w2.heap[d.blk]? = some (.cells d.kids 27 (0, 0)) ∧ w.heap.size ≤ d.blk ∧ d.In) : ERow w0 (w3.setCell ⟨eb, 7, none⟩ v3) eb v3 (l ++ m) := by
  have h2 := h.below hb
  have hs := hb.size
  have hlt := h.lt
  have nb : v3.ownBlock ≠ some eb := fun e => by
    rcases hl eb e with h' | h'
    · exact h.ne h'
    · omega
  have own_lt : ∀ k, ev.ownBlock = some k → k < w.heap.size := fun k hk => (h.row.lt k hk).2
  have b3 := blk_grown h2.blk hg h.ne
  refine ⟨by rw [heap_setCell_same w3 eb 7 _ _ _ b3]; rfl, ?_, h.base, nb, fun d hd => ?_⟩
  · rw [List.length_append, elCells_append]
    exact owns_set_other ho _ _ nb
  · rcases List.mem_append.1 hd with hd | hd
    · obtain ⟨k1, k2, k3, k4⟩ := h2.kids d hd
      have hd0 := (Array.getElem?_eq_some_iff.1 (h.kids d hd).1).1
      refine ⟨?_, fun e => ?_, k3, k4⟩
      · rw [Below.heap_setCell _ _ _ _ (by exact k3)]; exact blk_grown k1 hg k2
      · rcases hl _ e with h' | h'
        · exact k2 h'
        · omega
    · obtain ⟨k1, k2, k4⟩ := hm d hd
      have hne : d.blk ≠ eb := by omega
      have hd0 := (Array.getElem?_eq_some_iff.1 k1).1
      refine ⟨?_, fun e => ?_, hne, k4⟩
      · rw [Below.heap_setCell _ _ _ _ (by exact hne)]; exact blk_grown k1 hg (fun e => by have := own_lt _ e; omega)
      · rcases hl _ e with h' | h'
        · have := own_lt _ h'; omega
        · omega
/-- What the adding turns. -/
theorem ERow.add_fr {w0 w w2 w3 : World} {eb : Nat} {ev v3 : Value} (hb : Below w.heap.size w w2) (hg : w2.grownBy w3 ev.ownBlock) : Fr (fun k => k = eb ∨ ev.ownBlock = some k) w (w3.setCell ⟨eb, 7, none⟩ v3) :=
  ((Fr.of_new (F := fun k => k = eb ∨ ev.ownBlock = some k) hb).trans (Fr.of_grown (F := fun k => ev.ownBlock = some k) hg (fun k h => h)) (fun i _ h => .inr h)).setCell (.inr (.inl rfl)) _
end Go.Proofs.Ytiikeilpgajmfaa
