/- Trees in memory: types, expressions, statements, variables. -/
import Derived.Test.YtmidkomdmnncoaaChecked
import Derived.Test.YtmidkomdmnncoaaLib
import Derived.Shelf.Abstract
import Derived.Test.YtmidkomdmnncoaaMem3
import Derived.Deep.RegionHeld3
import Derived.Deep.QuietTactic
import Derived.BigQuiet
import Derived.WalkSpells
import Derived.WalkKit
import Derived.WalkSmall
import Derived.RegionTactic
import Derived.StillTailTactics
import Derived.Deep.LoopGhost
import Derived.Deep.DeepCutAuto
namespace Go.Proofs.Ytmidkomdmnncoaa
open Go.RowKit Go.Waf
set_option maxRecDepth 100000
set_option linter.unusedVariables false

/-- A type: its form, its number, its name, its parts. -/
inductive Ty where
  | none
  | mk (form num : Int) (name : ByteArray) (k : Nat) (of : Nat → Ty)
/-- An expression: its kind, its type, its number, its text, its parts. -/
inductive Ex where
  | none
  | mk (op : Int) (t : Ty) (i : Int) (s : ByteArray) (k : Nat) (x : Nat → Ex)
def Ty.form : Ty → Int | .mk f _ _ _ _ => f | .none => 0
def Ty.num : Ty → Int | .mk _ n _ _ _ => n | .none => 0
def Ty.name : Ty → ByteArray | .mk _ _ s _ _ => s | .none => ByteArray.empty
def Ty.k : Ty → Nat | .mk _ _ _ k _ => k | .none => 0
def Ty.of : Ty → Nat → Ty | .mk _ _ _ _ o => o | .none => fun _ => .none
def Ex.op : Ex → Int | .mk o _ _ _ _ _ => o | .none => 0
def Ex.t : Ex → Ty | .mk _ t _ _ _ _ => t | .none => .none
def Ex.i : Ex → Int | .mk _ _ i _ _ _ => i | .none => 0
def Ex.s : Ex → ByteArray | .mk _ _ _ s _ _ => s | .none => ByteArray.empty
def Ex.k : Ex → Nat | .mk _ _ _ _ k _ => k | .none => 0
def Ex.x : Ex → Nat → Ex | .mk _ _ _ _ _ x => x | .none => fun _ => .none
theorem cell_below {w w' : World} {B : Nat} {p : Addr} {u : Value} (hb : Below B w w') (hB : w.heap.size ≤ B) (hc : w.cell? p = some u) : w'.cell? p = some u := by
  rw [hb.cell (p := p) (Nat.lt_of_lt_of_le (World.block_lt_of_cell? w _ hc) hB)]; exact hc
/-- The parts of a type lie where v says. -/
def TyOk (w : World) : Ty → Value → Prop
  | .none, _ => False
  | .mk _ _ _ k of, v => ∃ a cap, v = .slice a k cap ∧ k ≤ cap ∧ cap ≤ 9223372036854775807 ∧ (0 < k → ∃ b o, a = some ⟨b, o, none⟩ ∧ ∀ j, j < k → ∃ u, TyOk w (of j) u ∧
      w.cell? ⟨b, o + j * 4, none⟩ = some (.int .i64 (of j).form) ∧ w.cell? ⟨b, o + j * 4 + 1, none⟩ = some (.int .i64 (of j).num) ∧ w.cell? ⟨b, o + j * 4 + 2, none⟩ = some (.string (of j).name) ∧ w.cell? ⟨b, o + j * 4 + 3, none⟩ = some u)
theorem TyOk.below {w w' : World} {B : Nat} (hb : Below B w w') (hB : w.heap.size ≤ B) : ∀ (t : Ty) (v : Value), TyOk w t v → TyOk w' t v
  | .none, _, h => h
  | .mk _ _ _ k of, v, h => by
    obtain ⟨a, cap, rfl, h1, h2, h3⟩ := h
    refine ⟨a, cap, rfl, h1, h2, fun hk => ?_⟩
    obtain ⟨b, o, rfl, hc⟩ := h3 hk
    refine ⟨b, o, rfl, fun j hj => ?_⟩
    obtain ⟨u, hu, c0, c1, c2, c3⟩ := hc j hj
    exact ⟨u, TyOk.below hb hB (of j) u hu, cell_below hb hB c0, cell_below hb hB c1, cell_below hb hB c2, cell_below hb hB c3⟩
def tyV (t : Ty) (v : Value) : Value := .agg #[.int .i64 t.form, .int .i64 t.num, .string t.name, v]
def exV (e : Ex) (tv xv : Value) : Value := .agg #[.int .i64 e.op, .int .i64 e.t.form, .int .i64 e.t.num, .string e.t.name, tv, .int .i32 e.i, .string e.s, xv]
/-- An expression's eight cells, at a place. -/
structure ExCells (w : World) (b o : Nat) (e : Ex) (tv xv : Value) : Prop where
  c0 : w.cell? ⟨b, o, none⟩ = some (.int .i64 e.op)
  c1 : w.cell? ⟨b, o + 1, none⟩ = some (.int .i64 e.t.form)
  c2 : w.cell? ⟨b, o + 2, none⟩ = some (.int .i64 e.t.num)
  c3 : w.cell? ⟨b, o + 3, none⟩ = some (.string e.t.name)
  c4 : w.cell? ⟨b, o + 4, none⟩ = some tv
  c5 : w.cell? ⟨b, o + 5, none⟩ = some (.int .i32 e.i)
  c6 : w.cell? ⟨b, o + 6, none⟩ = some (.string e.s)
  c7 : w.cell? ⟨b, o + 7, none⟩ = some xv
theorem ExCells.below {w w' : World} {b o B : Nat} {e : Ex} {tv xv : Value} (h : ExCells w b o e tv xv) (hb : Below B w w') (hB : w.heap.size ≤ B) : ExCells w' b o e tv xv :=
  ⟨cell_below hb hB h.c0, cell_below hb hB h.c1, cell_below hb hB h.c2, cell_below hb hB h.c3, cell_below hb hB h.c4, cell_below hb hB h.c5, cell_below hb hB h.c6, cell_below hb hB h.c7⟩
/-- The parts of an expression (those of its type, too) lie where tv, xv say. -/
def ExOk (w : World) : Ex → Value → Value → Prop
  | .none, _, _ => False
  | .mk _ t _ _ k x, tv, xv => TyOk w t tv ∧ ∃ a cap, xv = .slice a k cap ∧ k ≤ cap ∧ cap ≤ 9223372036854775807 ∧ (0 < k → ∃ b o, a = some ⟨b, o, none⟩ ∧ ∀ j, j < k → ∃ tu xu, ExOk w (x j) tu xu ∧ ExCells w b (o + j * 8) (x j) tu xu)
theorem ExOk.below {w w' : World} {B : Nat} (hb : Below B w w') (hB : w.heap.size ≤ B) : ∀ (e : Ex) (tv xv : Value), ExOk w e tv xv → ExOk w' e tv xv
  | .none, _, _, h => h
  | .mk _ t _ _ k x, tv, xv, h => by
    obtain ⟨ht, a, cap, rfl, h1, h2, h3⟩ := h
    refine ⟨TyOk.below hb hB t tv ht, a, cap, rfl, h1, h2, fun hk => ?_⟩
    obtain ⟨b, o, rfl, hc⟩ := h3 hk
    refine ⟨b, o, rfl, fun j hj => ?_⟩
    obtain ⟨tu, xu, hu, hcc⟩ := hc j hj
    exact ⟨tu, xu, ExOk.below hb hB (x j) tu xu hu, hcc.below hb hB⟩
/-- k expressions lie at a. -/
def ExsAt (w : World) (a : Option Addr) (k : Nat) (x : Nat → Ex) : Prop := 0 < k → ∃ b o, a = some ⟨b, o, none⟩ ∧ ∀ j, j < k → ∃ tu xu, ExOk w (x j) tu xu ∧ ExCells w b (o + j * 8) (x j) tu xu
theorem ExsAt.below {w w' : World} {B k : Nat} {a : Option Addr} {x : Nat → Ex} (h : ExsAt w a k x) (hb : Below B w w') (hB : w.heap.size ≤ B) : ExsAt w' a k x := fun hk => by
  obtain ⟨b, o, rfl, hc⟩ := h hk
  refine ⟨b, o, rfl, fun j hj => ?_⟩
  obtain ⟨tu, xu, hu, hcc⟩ := hc j hj
  exact ⟨tu, xu, ExOk.below hb hB _ _ _ hu, hcc.below hb hB⟩
theorem ExOk.shape {w : World} {e : Ex} {tv xv : Value} (h : ExOk w e tv xv) : ∃ a cap, xv = .slice a e.k cap ∧ e.k ≤ cap ∧ cap ≤ 9223372036854775807 ∧ ExsAt w a e.k e.x := by
  cases e with
  | none => exact h.elim
  | mk op t i s k x =>
    obtain ⟨_, a, cap, rfl, h1, h2, h3⟩ := h
    exact ⟨a, cap, rfl, h1, h2, h3⟩
theorem ExOk.ty {w : World} {e : Ex} {tv xv : Value} (h : ExOk w e tv xv) : TyOk w e.t tv := by
  cases e with
  | none => exact h.elim
  | mk op t i s k x => exact h.1
theorem TyOk.shape {w : World} {t : Ty} {v : Value} (h : TyOk w t v) : ∃ a cap, v = .slice a t.k cap ∧ t.k ≤ cap ∧ cap ≤ 9223372036854775807 := by
  cases t with
  | none => exact h.elim
  | mk f n s k of =>
    obtain ⟨a, cap, rfl, h1, h2, h3⟩ := h
    exact ⟨a, cap, rfl, h1, h2⟩
def tyF (f : Int) : Ty := .mk f 0 ByteArray.empty 0 (fun _ => .none)
def numE (f i : Int) : Ex := .mk 0 (tyF f) i ByteArray.empty 0 (fun _ => .none)
def nilS : Value := .slice none 0 0
theorem TyOk.leaf (w : World) (f : Int) : TyOk w (tyF f) (.slice none 0 0) := ⟨none, 0, rfl, Nat.le_refl _, by decide, fun h => absurd h (by omega)⟩
theorem ExOk.num (w : World) (f i : Int) : ExOk w (numE f i) (.slice none 0 0) (.slice none 0 0) := ⟨TyOk.leaf w f, none, 0, rfl, Nat.le_refl _, by decide, fun h => absurd h (by omega)⟩

/-- k types lie at a. -/
def TysAt (w : World) (a : Option Addr) (k : Nat) (of : Nat → Ty) : Prop := 0 < k → ∃ b o, a = some ⟨b, o, none⟩ ∧ ∀ j, j < k → ∃ u, TyOk w (of j) u ∧
      w.cell? ⟨b, o + j * 4, none⟩ = some (.int .i64 (of j).form) ∧ w.cell? ⟨b, o + j * 4 + 1, none⟩ = some (.int .i64 (of j).num) ∧ w.cell? ⟨b, o + j * 4 + 2, none⟩ = some (.string (of j).name) ∧ w.cell? ⟨b, o + j * 4 + 3, none⟩ = some u
theorem TysAt.below {w w' : World} {B k : Nat} {a : Option Addr} {x : Nat → Ty} (h : TysAt w a k x) (hb : Below B w w') (hB : w.heap.size ≤ B) : TysAt w' a k x := fun hk => by
  obtain ⟨b, o, rfl, hc⟩ := h hk
  refine ⟨b, o, rfl, fun j hj => ?_⟩
  obtain ⟨u, hu, c0, c1, c2, c3⟩ := hc j hj
  exact ⟨u, TyOk.below hb hB _ _ hu, cell_below hb hB c0, cell_below hb hB c1, cell_below hb hB c2, cell_below hb hB c3⟩
theorem TyOk.open {w : World} {t : Ty} {v : Value} (h : TyOk w t v) : ∃ a cap, v = .slice a t.k cap ∧ t.k ≤ cap ∧ cap ≤ 9223372036854775807 ∧ TysAt w a t.k t.of := by
  cases t with
  | none => exact h.elim
  | mk f n s k of => exact h
/-- A statement: its kind, its expressions, its bodies, its numbers. -/
inductive St where
  | none
  | mk (op : Int) (nx : Nat) (x : Nat → Ex) (nb : Nat) (bl : Nat → Nat) (b : Nat → Nat → St) (ni : Nat) (is : Nat → Int)
def St.op : St → Int | .mk o _ _ _ _ _ _ _ => o | .none => 0
def St.nx : St → Nat | .mk _ n _ _ _ _ _ _ => n | .none => 0
def St.x : St → Nat → Ex | .mk _ _ x _ _ _ _ _ => x | .none => fun _ => .none
def St.nb : St → Nat | .mk _ _ _ n _ _ _ _ => n | .none => 0
def St.bl : St → Nat → Nat | .mk _ _ _ _ l _ _ _ => l | .none => fun _ => 0
def St.b : St → Nat → Nat → St | .mk _ _ _ _ _ b _ _ => b | .none => fun _ _ => .none
def St.ni : St → Nat | .mk _ _ _ _ _ _ n _ => n | .none => 0
def St.is : St → Nat → Int | .mk _ _ _ _ _ _ _ i => i | .none => fun _ => 0
def stV (s : St) (xv bv iv : Value) : Value := .agg #[.int .i64 s.op, xv, bv, iv]
/-- k expressions: a slice. -/
def ExsIn (w : World) (v : Value) (k : Nat) (x : Nat → Ex) : Prop := ∃ a cap, v = .slice a k cap ∧ k ≤ cap ∧ cap ≤ 9223372036854775807 ∧ ExsAt w a k x
theorem ExsIn.below {w w' : World} {B k : Nat} {v : Value} {x : Nat → Ex} (h : ExsIn w v k x) (hb : Below B w w') (hB : w.heap.size ≤ B) : ExsIn w' v k x := by
  obtain ⟨a, cap, rfl, h1, h2, h3⟩ := h
  exact ⟨a, cap, rfl, h1, h2, h3.below hb hB⟩
theorem ExsIn.nil (w : World) (x : Nat → Ex) : ExsIn w (.slice none 0 0) 0 x := ⟨none, 0, rfl, Nat.le_refl _, by decide, fun h => absurd h (by omega)⟩
/-- k numbers: a slice. -/
def IntsIn (w : World) (v : Value) (k : Nat) (x : Nat → Int) : Prop := ∃ a cap, v = .slice a k cap ∧ k ≤ cap ∧ cap ≤ 9223372036854775807 ∧ (0 < k → ∃ b o, a = some ⟨b, o, none⟩ ∧ ∀ j, j < k → w.cell? ⟨b, o + j, none⟩ = some (.int .i32 (x j)))
theorem IntsIn.below {w w' : World} {B k : Nat} {v : Value} {x : Nat → Int} (h : IntsIn w v k x) (hb : Below B w w') (hB : w.heap.size ≤ B) : IntsIn w' v k x := by
  obtain ⟨a, cap, rfl, h1, h2, h3⟩ := h
  refine ⟨a, cap, rfl, h1, h2, fun hk => ?_⟩
  obtain ⟨b, o, rfl, hc⟩ := h3 hk
  exact ⟨b, o, rfl, fun j hj => cell_below hb hB (hc j hj)⟩
theorem IntsIn.nil (w : World) (x : Nat → Int) : IntsIn w (.slice none 0 0) 0 x := ⟨none, 0, rfl, Nat.le_refl _, by decide, fun h => absurd h (by omega)⟩
/-- The four cells of a statement. -/
structure StCells (w : World) (b o : Nat) (op : Int) (xv bv iv : Value) : Prop where
  c0 : w.cell? ⟨b, o, none⟩ = some (.int .i64 op)
  c1 : w.cell? ⟨b, o + 1, none⟩ = some xv
  c2 : w.cell? ⟨b, o + 2, none⟩ = some bv
  c3 : w.cell? ⟨b, o + 3, none⟩ = some iv
theorem StCells.below {w w' : World} {b o B : Nat} {op : Int} {xv bv iv : Value} (h : StCells w b o op xv bv iv) (hb : Below B w w') (hB : w.heap.size ≤ B) : StCells w' b o op xv bv iv :=
  ⟨cell_below hb hB h.c0, cell_below hb hB h.c1, cell_below hb hB h.c2, cell_below hb hB h.c3⟩
/-- The parts of a statement lie where xv, bv, iv say. -/
def StOk (w : World) : St → Value → Value → Value → Prop
  | .none, _, _, _ => False
  | .mk _ nx x nb bl b ni is, xv, bv, iv => ExsIn w xv nx x ∧ IntsIn w iv ni is ∧ ∃ a cap, bv = .slice a nb cap ∧ nb ≤ cap ∧ cap ≤ 9223372036854775807 ∧ (0 < nb → ∃ g o, a = some ⟨g, o, none⟩ ∧ ∀ j, j < nb → ∃ ja jc, w.cell? ⟨g, o + j, none⟩ = some (.slice ja (bl j) jc) ∧
      bl j ≤ jc ∧ jc ≤ 9223372036854775807 ∧ (0 < bl j → ∃ h p, ja = some ⟨h, p, none⟩ ∧ ∀ i, i < bl j → ∃ xu bu iu, StOk w (b j i) xu bu iu ∧ StCells w h (p + i * 4) (b j i).op xu bu iu))
/-- k statements lie at a. -/
def StsAt (w : World) (a : Option Addr) (k : Nat) (f : Nat → St) : Prop := 0 < k → ∃ h p, a = some ⟨h, p, none⟩ ∧ ∀ i, i < k → ∃ xu bu iu, StOk w (f i) xu bu iu ∧ StCells w h (p + i * 4) (f i).op xu bu iu
theorem StOk.below {w w' : World} {B : Nat} (hb : Below B w w') (hB : w.heap.size ≤ B) : ∀ (s : St) (xv bv iv : Value), StOk w s xv bv iv → StOk w' s xv bv iv
  | .none, _, _, _, h => h
  | .mk _ nx x nb bl b ni is, xv, bv, iv, h => by
    obtain ⟨hx, hi, a, cap, rfl, h1, h2, h3⟩ := h
    refine ⟨hx.below hb hB, hi.below hb hB, a, cap, rfl, h1, h2, fun hk => ?_⟩
    obtain ⟨g, o, rfl, hc⟩ := h3 hk
    refine ⟨g, o, rfl, fun j hj => ?_⟩
    obtain ⟨ja, jc, k1, k2, k3, k4⟩ := hc j hj
    refine ⟨ja, jc, cell_below hb hB k1, k2, k3, fun hl => ?_⟩
    obtain ⟨h, p, rfl, hd⟩ := k4 hl
    refine ⟨h, p, rfl, fun i hi => ?_⟩
    obtain ⟨xu, bu, iu, hok, hcc⟩ := hd i hi
    exact ⟨xu, bu, iu, StOk.below hb hB (b j i) _ _ _ hok, hcc.below hb hB⟩
theorem StsAt.below {w w' : World} {B k : Nat} {a : Option Addr} {x : Nat → St} (h : StsAt w a k x) (hb : Below B w w') (hB : w.heap.size ≤ B) : StsAt w' a k x := fun hk => by
  obtain ⟨g, o, rfl, hc⟩ := h hk
  refine ⟨g, o, rfl, fun i hi => ?_⟩
  obtain ⟨xu, bu, iu, hok, hcc⟩ := hc i hi
  exact ⟨xu, bu, iu, StOk.below hb hB _ _ _ _ hok, hcc.below hb hB⟩
/-- k statements: a slice. -/
def StsIn (w : World) (v : Value) (k : Nat) (f : Nat → St) : Prop := ∃ a cap, v = .slice a k cap ∧ k ≤ cap ∧ cap ≤ 9223372036854775807 ∧ StsAt w a k f
theorem StsIn.below {w w' : World} {B k : Nat} {v : Value} {x : Nat → St} (h : StsIn w v k x) (hb : Below B w w') (hB : w.heap.size ≤ B) : StsIn w' v k x := by
  obtain ⟨a, cap, rfl, h1, h2, h3⟩ := h
  exact ⟨a, cap, rfl, h1, h2, h3.below hb hB⟩
theorem StsIn.nil (w : World) (x : Nat → St) : StsIn w (.slice none 0 0) 0 x := ⟨none, 0, rfl, Nat.le_refl _, by decide, fun h => absurd h (by omega)⟩
/-- Bodies, a slice of slices. -/
def BsAt (w : World) (a : Option Addr) (nb : Nat) (bl : Nat → Nat) (b : Nat → Nat → St) : Prop := 0 < nb → ∃ g o, a = some ⟨g, o, none⟩ ∧ ∀ j, j < nb → ∃ ja jc, w.cell? ⟨g, o + j, none⟩ = some (.slice ja (bl j) jc) ∧ bl j ≤ jc ∧ jc ≤ 9223372036854775807 ∧ StsAt w ja (bl j) (b j)
theorem StOk.open {w : World} {s : St} {xv bv iv : Value} (h : StOk w s xv bv iv) : ExsIn w xv s.nx s.x ∧ IntsIn w iv s.ni s.is ∧ ∃ a cap, bv = .slice a s.nb cap ∧ s.nb ≤ cap ∧ cap ≤ 9223372036854775807 ∧ BsAt w a s.nb s.bl s.b := by
  cases s with
  | none => exact h.elim
  | mk op nx x nb bl b ni is => exact h
theorem BsAt.below {w w' : World} {B k : Nat} {a : Option Addr} {bl : Nat → Nat} {x : Nat → Nat → St} (h : BsAt w a k bl x) (hb : Below B w w') (hB : w.heap.size ≤ B) : BsAt w' a k bl x := fun hk => by
  obtain ⟨g, o, rfl, hc⟩ := h hk
  refine ⟨g, o, rfl, fun j hj => ?_⟩
  obtain ⟨ja, jc, k1, k2, k3, k4⟩ := hc j hj
  exact ⟨ja, jc, cell_below hb hB k1, k2, k3, StsAt.below k4 hb hB⟩
/-- The greatest of the first k. -/
def maxN (f : Nat → Nat) : Nat → Nat
  | 0 => 0
  | k + 1 => max (maxN f k) (f k)
theorem maxN_le {f : Nat → Nat} : ∀ {k j : Nat}, j < k → f j ≤ maxN f k
  | k + 1, j, h => by
    unfold maxN
    by_cases e : j = k
    · subst e; omega
    · have := maxN_le (f := f) (by omega : j < k); omega
theorem maxN_mono {f : Nat → Nat} : ∀ {j k : Nat}, j ≤ k → maxN f j ≤ maxN f k
  | j, 0, h => by obtain rfl : j = 0 := by omega
                  exact Nat.le_refl _
  | j, k + 1, h => by
    by_cases e : j = k + 1
    · subst e; exact Nat.le_refl _
    · have := maxN_mono (f := f) (by omega : j ≤ k); show maxN f j ≤ max (maxN f k) (f k); omega
def anyB (p : Nat → Bool) : Nat → Bool
  | 0 => false
  | k + 1 => anyB p k || p k
theorem anyB_false {p : Nat → Bool} : ∀ {k : Nat}, (∀ j, j < k → p j = false) → anyB p k = false
  | 0, _ => rfl
  | k + 1, h => by unfold anyB; rw [anyB_false fun j hj => h j (by omega), h k (by omega)]; rfl
theorem anyB_true {p : Nat → Bool} : ∀ {k j : Nat}, j < k → p j = true → anyB p k = true
  | 0, _, h, _ => absurd h (by omega)
  | k + 1, j, h, hp => by
    unfold anyB
    by_cases he : j = k
    · rw [← he, hp]; simp
    · rw [anyB_true (by omega : j < k) hp]; rfl
theorem anyB_none {p : Nat → Bool} {k : Nat} (h : anyB p k = false) (j : Nat) (hj : j < k) : p j = false := by
  cases hp : p j with
  | false => rfl
  | true => rw [anyB_true hj hp] at h; cases h
theorem bSlice {a a' : Option Addr} {n c c' : Nat} (h : Value.slice a n c = Value.slice a' n c') : a = a' ∧ c = c' := by cases h; exact ⟨rfl, rfl⟩
end Go.Proofs.Ytmidkomdmnncoaa
