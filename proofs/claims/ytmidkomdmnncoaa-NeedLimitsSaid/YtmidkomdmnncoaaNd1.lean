/- Need: trees as data, what of it names no function. (Printed by wip/scripts/gen_nd1.py.) -/
import Derived.Test.YtmidkomdmnncoaaTr1
import Derived.Laws.Tables
import Derived.Laws.OwnMore
namespace Go.Proofs.Ytmidkomdmnncoaa
open Go.RowKit Go.Waf
set_option maxRecDepth 100000
set_option linter.unusedVariables false
set_option linter.unusedSimpArgs false

/-- A variable: its name, its mark, its type. -/
structure Vr where
  name : ByteArray
  ex : Bool
  t : Ty
def vrV (e : Vr) (u : Value) : Value := .agg #[.string e.name, .bool e.ex, .int .i64 e.t.form, .int .i64 e.t.num, .string e.t.name, u]
def VrsAt (w : World) (a : Option Addr) (k : Nat) (x : Nat → Vr) : Prop := 0 < k → ∃ b o, a = some ⟨b, o, none⟩ ∧ ∀ j, j < k → ∃ u, TyOk w (x j).t u ∧ w.cell? ⟨b, o + j * 6, none⟩ = some (.string (x j).name) ∧ w.cell? ⟨b, o + j * 6 + 1, none⟩ = some (.bool (x j).ex) ∧
      w.cell? ⟨b, o + j * 6 + 2, none⟩ = some (.int .i64 (x j).t.form) ∧ w.cell? ⟨b, o + j * 6 + 3, none⟩ = some (.int .i64 (x j).t.num) ∧ w.cell? ⟨b, o + j * 6 + 4, none⟩ = some (.string (x j).t.name) ∧ w.cell? ⟨b, o + j * 6 + 5, none⟩ = some u
theorem VrsAt.below {w w' : World} {B k : Nat} {a : Option Addr} {x : Nat → Vr} (h : VrsAt w a k x) (hb : Below B w w') (hB : w.heap.size ≤ B) : VrsAt w' a k x := fun hk => by
  obtain ⟨b, o, rfl, hc⟩ := h hk
  refine ⟨b, o, rfl, fun j hj => ?_⟩
  obtain ⟨u, hu, c0, c1, c2, c3, c4, c5⟩ := hc j hj
  exact ⟨u, TyOk.below hb hB _ _ hu, cell_below hb hB c0, cell_below hb hB c1, cell_below hb hB c2, cell_below hb hB c3, cell_below hb hB c4, cell_below hb hB c5⟩
theorem rowC {w : World} {b : Nat} {T : TypeId} {cs : Array Value} (h : w.heap[b]? = some (.cells cs T (0, 0))) (i : Nat) (u : Value) (hu : cs[i]? = some u := by rfl) : w.cell? ⟨b, i, none⟩ = some u := (cell_of_row w b i _ _ _ h).trans hu
theorem max_val (k : IntKind) (a b : Nat) : Value.int k (if a < b then (b : Int) else (a : Int)) = Value.int k ((max a b : Nat) : Int) := by
  split
  · rw [Nat.max_eq_right (by omega)]
  · rw [Nat.max_eq_left (by omega)]
/-- How deep a statement is. -/
def St.nest : St → Nat
  | .none => 0
  | .mk _ _ _ nb bl b _ _ => maxN (fun j => maxN (fun i => (b j i).nest) (bl j)) nb + 1
def nestS (n : Nat) (f : Nat → St) : Nat := maxN (fun i => (f i).nest) n
theorem maxN_congr {f g : Nat → Nat} : ∀ {k : Nat}, (∀ j, j < k → f j = g j) → maxN f k = maxN g k
  | 0, _ => rfl
  | k + 1, h => by show max (maxN f k) (f k) = max (maxN g k) (g k); rw [maxN_congr fun j hj => h j (by omega), h k (by omega)]
theorem St.nest_eq {w : World} {s : St} {xv bv iv : Value} (h : StOk w s xv bv iv) : s.nest = maxN (fun j => nestS (s.bl j) (s.b j)) s.nb + 1 := by
  cases s with
  | none => exact h.elim
  | mk op nx x nb bl b ni is => rfl
/-- The same as TyOk, ExOk, and all blocks are F's. -/
def TyOkB (F : Nat → Prop) (w : World) : Ty → Value → Prop
  | .none, _ => False
  | .mk _ _ _ k of, v => ∃ a cap, v = .slice a k cap ∧ k ≤ cap ∧ cap ≤ 9223372036854775807 ∧ (0 < k → ∃ b o, a = some ⟨b, o, none⟩ ∧ F b ∧ ∀ j, j < k → ∃ u, TyOkB F w (of j) u ∧
      w.cell? ⟨b, o + j * 4, none⟩ = some (.int .i64 (of j).form) ∧ w.cell? ⟨b, o + j * 4 + 1, none⟩ = some (.int .i64 (of j).num) ∧ w.cell? ⟨b, o + j * 4 + 2, none⟩ = some (.string (of j).name) ∧ w.cell? ⟨b, o + j * 4 + 3, none⟩ = some u)
def ExOkB (F : Nat → Prop) (w : World) : Ex → Value → Value → Prop
  | .none, _, _ => False
  | .mk _ t _ _ k x, tv, xv => TyOkB F w t tv ∧ ∃ a cap, xv = .slice a k cap ∧ k ≤ cap ∧ cap ≤ 9223372036854775807 ∧ (0 < k → ∃ b o, a = some ⟨b, o, none⟩ ∧ F b ∧ ∀ j, j < k → ∃ tu xu, ExOkB F w (x j) tu xu ∧ ExCells w b (o + j * 8) (x j) tu xu)
/-- Cells of F's blocks are kept. -/
def Keeps (F : Nat → Prop) (w w' : World) : Prop := ∀ b o u, F b → w.cell? ⟨b, o, none⟩ = some u → w'.cell? ⟨b, o, none⟩ = some u
theorem Keeps.below {F : Nat → Prop} {w w' : World} (h : Below w.heap.size w w') : Keeps F w w' := fun b o u _ hc => cell_below h (Nat.le_refl _) hc
theorem Keeps.set {F : Nat → Prop} (w : World) (p : Addr) (u : Value) (hp : ¬ F p.block) : Keeps F w (w.setCell p u) := fun b o v hb hc => by
  have : b ≠ p.block := fun e => hp (e ▸ hb)
  rw [World.cell?_of_block (a := ⟨b, o, none⟩) (Below.heap_setCell w p u b this)]; exact hc
theorem Keeps.trans {F : Nat → Prop} {a b c : World} (h : Keeps F a b) (k : Keeps F b c) : Keeps F a c := fun q o u hq hc => k q o u hq (h q o u hq hc)
theorem TyOkB.imp {F F' : Nat → Prop} {w w' : World} (hF : ∀ b, F b → F' b) (hk : Keeps F w w') : ∀ (t : Ty) (v : Value), TyOkB F w t v → TyOkB F' w' t v
  | .none, _, h => h
  | .mk _ _ _ k of, v, h => by
    obtain ⟨a, cap, rfl, h1, h2, h3⟩ := h
    refine ⟨a, cap, rfl, h1, h2, fun h0 => ?_⟩
    obtain ⟨b, o, rfl, hb, hc⟩ := h3 h0
    refine ⟨b, o, rfl, hF b hb, fun j hj => ?_⟩
    obtain ⟨u, hu, c0, c1, c2, c3⟩ := hc j hj
    exact ⟨u, TyOkB.imp hF hk (of j) u hu, hk _ _ _ hb c0, hk _ _ _ hb c1, hk _ _ _ hb c2, hk _ _ _ hb c3⟩
theorem ExOkB.imp {F F' : Nat → Prop} {w w' : World} (hF : ∀ b, F b → F' b) (hk : Keeps F w w') : ∀ (e : Ex) (tv xv : Value), ExOkB F w e tv xv → ExOkB F' w' e tv xv
  | .none, _, _, h => h
  | .mk _ t _ _ k x, tv, xv, h => by
    obtain ⟨ht, a, cap, rfl, h1, h2, h3⟩ := h
    refine ⟨TyOkB.imp hF hk t tv ht, a, cap, rfl, h1, h2, fun h0 => ?_⟩
    obtain ⟨b, o, rfl, hb, hc⟩ := h3 h0
    refine ⟨b, o, rfl, hF b hb, fun j hj => ?_⟩
    obtain ⟨tu, xu, hu, ⟨c0, c1, c2, c3, c4, c5, c6, c7⟩⟩ := hc j hj
    exact ⟨tu, xu, ExOkB.imp hF hk (x j) tu xu hu, ⟨hk _ _ _ hb c0, hk _ _ _ hb c1, hk _ _ _ hb c2, hk _ _ _ hb c3, hk _ _ _ hb c4, hk _ _ _ hb c5, hk _ _ _ hb c6, hk _ _ _ hb c7⟩⟩
theorem TyOkB.ok {F : Nat → Prop} {w : World} : ∀ (t : Ty) (v : Value), TyOkB F w t v → TyOk w t v
  | .none, _, h => h
  | .mk _ _ _ k of, v, h => by
    obtain ⟨a, cap, rfl, h1, h2, h3⟩ := h
    refine ⟨a, cap, rfl, h1, h2, fun h0 => ?_⟩
    obtain ⟨b, o, rfl, hb, hc⟩ := h3 h0
    refine ⟨b, o, rfl, fun j hj => ?_⟩
    obtain ⟨u, hu, c⟩ := hc j hj
    exact ⟨u, TyOkB.ok (of j) u hu, c⟩
theorem ExOkB.ok {F : Nat → Prop} {w : World} : ∀ (e : Ex) (tv xv : Value), ExOkB F w e tv xv → ExOk w e tv xv
  | .none, _, _, h => h
  | .mk _ t _ _ k x, tv, xv, h => by
    obtain ⟨ht, a, cap, rfl, h1, h2, h3⟩ := h
    refine ⟨TyOkB.ok t tv ht, a, cap, rfl, h1, h2, fun h0 => ?_⟩
    obtain ⟨b, o, rfl, hb, hc⟩ := h3 h0
    refine ⟨b, o, rfl, fun j hj => ?_⟩
    obtain ⟨tu, xu, hu, c⟩ := hc j hj
    exact ⟨tu, xu, ExOkB.ok (x j) tu xu hu, c⟩
def New (n b : Nat) : Prop := n ≤ b
theorem some8 {w : World} {b : Nat} {T : TypeId} {v0 v1 v2 v3 v4 v5 v6 v7 : Value} (h : w.heap[b]? = some (.cells #[v0, v1, v2, v3, v4, v5, v6, v7] T (0, 0))) (i : Nat) (hi : i < 8 := by decide) : (w.cell? ⟨b, i, none⟩).isSome = true := by
  rw [cell_of_row _ _ i _ _ _ h]
  rcases (by omega : i = 0 ∨ i = 1 ∨ i = 2 ∨ i = 3 ∨ i = 4 ∨ i = 5 ∨ i = 6 ∨ i = 7) with rfl | rfl | rfl | rfl | rfl | rfl | rfl | rfl <;> rfl
theorem Keeps.setRow {F : Nat → Prop} (w : World) (g : Nat) (cs : Array Value) (hg : ¬ F g) : Keeps F w (w.setRow g cs) := fun b o v hb hc => by
  have : b ≠ g := fun e => hg (e ▸ hb)
  rw [World.cell?_of_block (a := ⟨b, o, none⟩) (setRow_other w g b cs this)]; exact hc
theorem set8 {w : World} {g : Nat} {T : TypeId} {o0 o1 o2 o3 o4 o5 o6 o7 : Value} (h : w.heap[g]? = some (.cells #[o0, o1, o2, o3, o4, o5, o6, o7] T (0, 0))) (v0 v1 v2 v3 v4 v5 v6 v7 : Value) : ((((((((w.setCell ⟨g, 0, none⟩ v0).setCell ⟨g, 1, none⟩ v1).setCell ⟨g, 2, none⟩ v2).setCell ⟨g, 3, none⟩ v3).setCell ⟨g, 4, none⟩ v4).setCell ⟨g, 5, none⟩ v5).setCell ⟨g, 6, none⟩ v6).setCell ⟨g, 7, none⟩ v7).heap[g]? = some (.cells #[v0, v1, v2, v3, v4, v5, v6, v7] T (0, 0)) ∧ (∀ k, k ≠ g → ((((((((w.setCell ⟨g, 0, none⟩ v0).setCell ⟨g, 1, none⟩ v1).setCell ⟨g, 2, none⟩ v2).setCell ⟨g, 3, none⟩ v3).setCell ⟨g, 4, none⟩ v4).setCell ⟨g, 5, none⟩ v5).setCell ⟨g, 6, none⟩ v6).setCell ⟨g, 7, none⟩ v7).heap[k]? = w.heap[k]?) ∧ ((((((((w.setCell ⟨g, 0, none⟩ v0).setCell ⟨g, 1, none⟩ v1).setCell ⟨g, 2, none⟩ v2).setCell ⟨g, 3, none⟩ v3).setCell ⟨g, 4, none⟩ v4).setCell ⟨g, 5, none⟩ v5).setCell ⟨g, 6, none⟩ v6).setCell ⟨g, 7, none⟩ v7).heap.size = w.heap.size := by
  have h0 : (w.setCell ⟨g, 0, none⟩ v0).heap[g]? = some (.cells #[v0, o1, o2, o3, o4, o5, o6, o7] T (0, 0)) := heap_setCell_same w g 0 _ _ _ h
  have h1 : ((w.setCell ⟨g, 0, none⟩ v0).setCell ⟨g, 1, none⟩ v1).heap[g]? = some (.cells #[v0, v1, o2, o3, o4, o5, o6, o7] T (0, 0)) := heap_setCell_same (w.setCell ⟨g, 0, none⟩ v0) g 1 _ _ _ h0
  have h2 : (((w.setCell ⟨g, 0, none⟩ v0).setCell ⟨g, 1, none⟩ v1).setCell ⟨g, 2, none⟩ v2).heap[g]? = some (.cells #[v0, v1, v2, o3, o4, o5, o6, o7] T (0, 0)) := heap_setCell_same ((w.setCell ⟨g, 0, none⟩ v0).setCell ⟨g, 1, none⟩ v1) g 2 _ _ _ h1
  have h3 : ((((w.setCell ⟨g, 0, none⟩ v0).setCell ⟨g, 1, none⟩ v1).setCell ⟨g, 2, none⟩ v2).setCell ⟨g, 3, none⟩ v3).heap[g]? = some (.cells #[v0, v1, v2, v3, o4, o5, o6, o7] T (0, 0)) := heap_setCell_same (((w.setCell ⟨g, 0, none⟩ v0).setCell ⟨g, 1, none⟩ v1).setCell ⟨g, 2, none⟩ v2) g 3 _ _ _ h2
  have h4 : (((((w.setCell ⟨g, 0, none⟩ v0).setCell ⟨g, 1, none⟩ v1).setCell ⟨g, 2, none⟩ v2).setCell ⟨g, 3, none⟩ v3).setCell ⟨g, 4, none⟩ v4).heap[g]? = some (.cells #[v0, v1, v2, v3, v4, o5, o6, o7] T (0, 0)) := heap_setCell_same ((((w.setCell ⟨g, 0, none⟩ v0).setCell ⟨g, 1, none⟩ v1).setCell ⟨g, 2, none⟩ v2).setCell ⟨g, 3, none⟩ v3) g 4 _ _ _ h3
  have h5 : ((((((w.setCell ⟨g, 0, none⟩ v0).setCell ⟨g, 1, none⟩ v1).setCell ⟨g, 2, none⟩ v2).setCell ⟨g, 3, none⟩ v3).setCell ⟨g, 4, none⟩ v4).setCell ⟨g, 5, none⟩ v5).heap[g]? = some (.cells #[v0, v1, v2, v3, v4, v5, o6, o7] T (0, 0)) := heap_setCell_same (((((w.setCell ⟨g, 0, none⟩ v0).setCell ⟨g, 1, none⟩ v1).setCell ⟨g, 2, none⟩ v2).setCell ⟨g, 3, none⟩ v3).setCell ⟨g, 4, none⟩ v4) g 5 _ _ _ h4
  have h6 : (((((((w.setCell ⟨g, 0, none⟩ v0).setCell ⟨g, 1, none⟩ v1).setCell ⟨g, 2, none⟩ v2).setCell ⟨g, 3, none⟩ v3).setCell ⟨g, 4, none⟩ v4).setCell ⟨g, 5, none⟩ v5).setCell ⟨g, 6, none⟩ v6).heap[g]? = some (.cells #[v0, v1, v2, v3, v4, v5, v6, o7] T (0, 0)) := heap_setCell_same ((((((w.setCell ⟨g, 0, none⟩ v0).setCell ⟨g, 1, none⟩ v1).setCell ⟨g, 2, none⟩ v2).setCell ⟨g, 3, none⟩ v3).setCell ⟨g, 4, none⟩ v4).setCell ⟨g, 5, none⟩ v5) g 6 _ _ _ h5
  have h7 : ((((((((w.setCell ⟨g, 0, none⟩ v0).setCell ⟨g, 1, none⟩ v1).setCell ⟨g, 2, none⟩ v2).setCell ⟨g, 3, none⟩ v3).setCell ⟨g, 4, none⟩ v4).setCell ⟨g, 5, none⟩ v5).setCell ⟨g, 6, none⟩ v6).setCell ⟨g, 7, none⟩ v7).heap[g]? = some (.cells #[v0, v1, v2, v3, v4, v5, v6, v7] T (0, 0)) := heap_setCell_same (((((((w.setCell ⟨g, 0, none⟩ v0).setCell ⟨g, 1, none⟩ v1).setCell ⟨g, 2, none⟩ v2).setCell ⟨g, 3, none⟩ v3).setCell ⟨g, 4, none⟩ v4).setCell ⟨g, 5, none⟩ v5).setCell ⟨g, 6, none⟩ v6) g 7 _ _ _ h6
  refine ⟨h7, fun k hk => ?_, by simp [World.setCell]⟩
  rw [Below.heap_setCell _ _ _ _ (by exact hk), Below.heap_setCell _ _ _ _ (by exact hk), Below.heap_setCell _ _ _ _ (by exact hk), Below.heap_setCell _ _ _ _ (by exact hk), Below.heap_setCell _ _ _ _ (by exact hk), Below.heap_setCell _ _ _ _ (by exact hk), Below.heap_setCell _ _ _ _ (by exact hk), Below.heap_setCell _ _ _ _ (by exact hk)]
theorem set4 {w : World} {g : Nat} {T : TypeId} {o0 o1 o2 o3 : Value} (h : w.heap[g]? = some (.cells #[o0, o1, o2, o3] T (0, 0))) (v0 v1 v2 v3 : Value) : ((((w.setCell ⟨g, 0, none⟩ v0).setCell ⟨g, 1, none⟩ v1).setCell ⟨g, 2, none⟩ v2).setCell ⟨g, 3, none⟩ v3).heap[g]? = some (.cells #[v0, v1, v2, v3] T (0, 0)) ∧ (∀ k, k ≠ g → ((((w.setCell ⟨g, 0, none⟩ v0).setCell ⟨g, 1, none⟩ v1).setCell ⟨g, 2, none⟩ v2).setCell ⟨g, 3, none⟩ v3).heap[k]? = w.heap[k]?) ∧ ((((w.setCell ⟨g, 0, none⟩ v0).setCell ⟨g, 1, none⟩ v1).setCell ⟨g, 2, none⟩ v2).setCell ⟨g, 3, none⟩ v3).heap.size = w.heap.size := by
  have h0 : (w.setCell ⟨g, 0, none⟩ v0).heap[g]? = some (.cells #[v0, o1, o2, o3] T (0, 0)) := heap_setCell_same w g 0 _ _ _ h
  have h1 : ((w.setCell ⟨g, 0, none⟩ v0).setCell ⟨g, 1, none⟩ v1).heap[g]? = some (.cells #[v0, v1, o2, o3] T (0, 0)) := heap_setCell_same (w.setCell ⟨g, 0, none⟩ v0) g 1 _ _ _ h0
  have h2 : (((w.setCell ⟨g, 0, none⟩ v0).setCell ⟨g, 1, none⟩ v1).setCell ⟨g, 2, none⟩ v2).heap[g]? = some (.cells #[v0, v1, v2, o3] T (0, 0)) := heap_setCell_same ((w.setCell ⟨g, 0, none⟩ v0).setCell ⟨g, 1, none⟩ v1) g 2 _ _ _ h1
  have h3 : ((((w.setCell ⟨g, 0, none⟩ v0).setCell ⟨g, 1, none⟩ v1).setCell ⟨g, 2, none⟩ v2).setCell ⟨g, 3, none⟩ v3).heap[g]? = some (.cells #[v0, v1, v2, v3] T (0, 0)) := heap_setCell_same (((w.setCell ⟨g, 0, none⟩ v0).setCell ⟨g, 1, none⟩ v1).setCell ⟨g, 2, none⟩ v2) g 3 _ _ _ h2
  refine ⟨h3, fun k hk => ?_, by simp [World.setCell]⟩
  rw [Below.heap_setCell _ _ _ _ (by exact hk), Below.heap_setCell _ _ _ _ (by exact hk), Below.heap_setCell _ _ _ _ (by exact hk), Below.heap_setCell _ _ _ _ (by exact hk)]
theorem atNew {V : World} {a : Array Value} {t : TypeId} {p : Nat} (h : p = V.heap.size) : (V.alloc (.cells a t)).heap[p]? = some (.cells a t (0, 0)) := by subst h; exact heap_alloc_new V _
/-- W is as w, but for block g (and for what is new). -/
def Agree (g : Nat) (w W : World) : Prop := w.heap.size ≤ W.heap.size ∧ ∀ k, k < w.heap.size → k ≠ g → W.heap[k]? = w.heap[k]?
theorem Agree.of_alloc {g : Nat} {w W : World} {o : Obj} (h : Agree g (w.alloc o) W) : Agree g w W :=
  ⟨Nat.le_trans (by simp) h.1, fun k hk hg => (h.2 k (by simp; omega) hg).trans (Below.heap_alloc w o k hk)⟩
theorem Agree.new {g : Nat} {w W : World} {a : Array Value} {t : TypeId} (h : Agree g (w.alloc (.cells a t)) W) (hg : w.heap.size ≠ g) : W.heap[w.heap.size]? = some (.cells a t (0, 0)) := by
  rw [h.2 _ (by simp) hg]; exact heap_alloc_new w _
theorem Agree.set {w : World} (g i : Nat) (u : Value) : Agree g w (w.setCell ⟨g, i, none⟩ u) := ⟨by simp [World.setCell], fun k _ hk => Below.heap_setCell w _ _ k hk⟩
theorem Agree.alloc {g : Nat} {w W : World} (h : Agree g w W) (o : Obj) : Agree g w (W.alloc o) := ⟨Nat.le_trans h.1 (by simp), fun k hk hg => (Below.heap_alloc W o k (Nat.lt_of_lt_of_le hk h.1)).trans (h.2 k hk hg)⟩
theorem blk5 {w : World} (o0 o1 o2 o3 o4 : Obj) : let W := ((((w.alloc o0).alloc o1).alloc o2).alloc o3).alloc o4
    W.heap[w.heap.size]? = some o0 ∧ W.heap[w.heap.size + 1]? = some o1 ∧ W.heap[w.heap.size + 2]? = some o2 ∧ W.heap[w.heap.size + 3]? = some o3 ∧ W.heap[w.heap.size + 4]? = some o4 := by
  have s : ∀ (V : World) (o : Obj), (V.alloc o).heap.size = V.heap.size + 1 := fun V o => by simp
  have n : ∀ (V : World) (o : Obj) (k : Nat), k = V.heap.size → (V.alloc o).heap[k]? = some o := fun V o k h => by subst h; exact heap_alloc_new V o
  exact ⟨blk_alloc (blk_alloc (blk_alloc (blk_alloc (n w o0 _ rfl) _) _) _) _, blk_alloc (blk_alloc (blk_alloc (n _ o1 _ (by simp)) _) _) _, blk_alloc (blk_alloc (n _ o2 _ (by simp)) _) _, blk_alloc (n _ o3 _ (by simp)) _, n _ o4 _ (by simp)⟩
end Go.Proofs.Ytmidkomdmnncoaa
