/- Fold: trees in memory. -/
import Derived.Test.YtiikeilpgajmfaaChecked
import Derived.Test.YtiikeilpgajmfaaArith
import Derived.Test.YtiikeilpgajmfaaMem3
import Derived.Deep.RegionHeld3
import Derived.Deep.QuietTactic
import Derived.BigQuiet
import Derived.WalkSpells
import Derived.WalkKit
import Derived.WalkSmall
import Derived.RegionTactic
import Derived.StillTailTactics
import Derived.Deep.LoopGhost
import Derived.Deep.DeepCutAuto
namespace Go.Proofs.Ytiikeilpgajmfaa
open Go.RowKit Go.Waf
set_option maxRecDepth 100000
set_option linter.unusedVariables false

/-- A type: its form, its number, its name, its parts. -/
inductive Ty where
  | none
  | mk (form num : Int) (name : ByteArray) (k : Nat) (of : Nat → Ty)
/-- An expression: its kind, its type, its number, its text, its parts. -/
inductive Ex where
  | none
  | mk (op : Int) (t : Ty) (i : Int) (s : ByteArray) (k : Nat) (x : Nat → Ex)
def Ty.form : Ty → Int | .mk f _ _ _ _ => f | .none => 0
def Ty.num : Ty → Int | .mk _ n _ _ _ => n | .none => 0
def Ty.name : Ty → ByteArray | .mk _ _ s _ _ => s | .none => ByteArray.empty
def Ty.k : Ty → Nat | .mk _ _ _ k _ => k | .none => 0
def Ty.of : Ty → Nat → Ty | .mk _ _ _ _ o => o | .none => fun _ => .none
def Ex.op : Ex → Int | .mk o _ _ _ _ _ => o | .none => 0
def Ex.t : Ex → Ty | .mk _ t _ _ _ _ => t | .none => .none
def Ex.i : Ex → Int | .mk _ _ i _ _ _ => i | .none => 0
def Ex.s : Ex → ByteArray | .mk _ _ _ s _ _ => s | .none => ByteArray.empty
def Ex.k : Ex → Nat | .mk _ _ _ _ k _ => k | .none => 0
def Ex.x : Ex → Nat → Ex | .mk _ _ _ _ _ x => x | .none => fun _ => .none
theorem cell_below {w w' : World} {B : Nat} {p : Addr} {u : Value} (hb : Below B w w') (hB : w.heap.size ≤ B) (hc : w.cell? p = some u) : w'.cell? p = some u := by
  rw [hb.cell (p := p) (Nat.lt_of_lt_of_le (World.block_lt_of_cell? w _ hc) hB)]; exact hc
/-- The parts of a type lie where v says. -/
def TyOk (w : World) : Ty → Value → Prop
  | .none, _ => False
  | .mk _ _ _ k of, v => ∃ a cap, v = .slice a k cap ∧ k ≤ cap ∧ cap ≤ 9223372036854775807 ∧ (0 < k → ∃ b o, a = some ⟨b, o, none⟩ ∧ ∀ j, j < k → ∃ u, TyOk w (of j) u ∧
      w.cell? ⟨b, o + j * 4, none⟩ = some (.int .i64 (of j).form) ∧ w.cell? ⟨b, o + j * 4 + 1, none⟩ = some (.int .i64 (of j).num) ∧ w.cell? ⟨b, o + j * 4 + 2, none⟩ = some (.string (of j).name) ∧ w.cell? ⟨b, o + j * 4 + 3, none⟩ = some u)
theorem TyOk.below {w w' : World} {B : Nat} (hb : Below B w w') (hB : w.heap.size ≤ B) : ∀ (t : Ty) (v : Value), TyOk w t v → TyOk w' t v
  | .none, _, h => h
  | .mk _ _ _ k of, v, h => by
    obtain ⟨a, cap, rfl, h1, h2, h3⟩ := h
    refine ⟨a, cap, rfl, h1, h2, fun hk => ?_⟩
    obtain ⟨b, o, rfl, hc⟩ := h3 hk
    refine ⟨b, o, rfl, fun j hj => ?_⟩
    obtain ⟨u, hu, c0, c1, c2, c3⟩ := hc j hj
    exact ⟨u, TyOk.below hb hB (of j) u hu, cell_below hb hB c0, cell_below hb hB c1, cell_below hb hB c2, cell_below hb hB c3⟩
def tyV (t : Ty) (v : Value) : Value := .agg #[.int .i64 t.form, .int .i64 t.num, .string t.name, v]
def exV (e : Ex) (tv xv : Value) : Value := .agg #[.int .i64 e.op, .int .i64 e.t.form, .int .i64 e.t.num, .string e.t.name, tv, .int .i32 e.i, .string e.s, xv]
/-- An expression's eight cells, at a place. -/
structure ExCells (w : World) (b o : Nat) (e : Ex) (tv xv : Value) : Prop where
  c0 : w.cell? ⟨b, o, none⟩ = some (.int .i64 e.op)
  c1 : w.cell? ⟨b, o + 1, none⟩ = some (.int .i64 e.t.form)
  c2 : w.cell? ⟨b, o + 2, none⟩ = some (.int .i64 e.t.num)
  c3 : w.cell? ⟨b, o + 3, none⟩ = some (.string e.t.name)
  c4 : w.cell? ⟨b, o + 4, none⟩ = some tv
  c5 : w.cell? ⟨b, o + 5, none⟩ = some (.int .i32 e.i)
  c6 : w.cell? ⟨b, o + 6, none⟩ = some (.string e.s)
  c7 : w.cell? ⟨b, o + 7, none⟩ = some xv
theorem ExCells.below {w w' : World} {b o B : Nat} {e : Ex} {tv xv : Value} (h : ExCells w b o e tv xv) (hb : Below B w w') (hB : w.heap.size ≤ B) : ExCells w' b o e tv xv :=
  ⟨cell_below hb hB h.c0, cell_below hb hB h.c1, cell_below hb hB h.c2, cell_below hb hB h.c3, cell_below hb hB h.c4, cell_below hb hB h.c5, cell_below hb hB h.c6, cell_below hb hB h.c7⟩
/-- The parts of an expression (those of its type, too) lie where tv, xv say. -/
def ExOk (w : World) : Ex → Value → Value → Prop
  | .none, _, _ => False
  | .mk _ t _ _ k x, tv, xv => TyOk w t tv ∧ ∃ a cap, xv = .slice a k cap ∧ k ≤ cap ∧ cap ≤ 9223372036854775807 ∧ (0 < k → ∃ b o, a = some ⟨b, o, none⟩ ∧ ∀ j, j < k → ∃ tu xu, ExOk w (x j) tu xu ∧ ExCells w b (o + j * 8) (x j) tu xu)
theorem ExOk.below {w w' : World} {B : Nat} (hb : Below B w w') (hB : w.heap.size ≤ B) : ∀ (e : Ex) (tv xv : Value), ExOk w e tv xv → ExOk w' e tv xv
  | .none, _, _, h => h
  | .mk _ t _ _ k x, tv, xv, h => by
    obtain ⟨ht, a, cap, rfl, h1, h2, h3⟩ := h
    refine ⟨TyOk.below hb hB t tv ht, a, cap, rfl, h1, h2, fun hk => ?_⟩
    obtain ⟨b, o, rfl, hc⟩ := h3 hk
    refine ⟨b, o, rfl, fun j hj => ?_⟩
    obtain ⟨tu, xu, hu, hcc⟩ := hc j hj
    exact ⟨tu, xu, ExOk.below hb hB (x j) tu xu hu, hcc.below hb hB⟩
/-- k expressions lie at a. -/
def ExsAt (w : World) (a : Option Addr) (k : Nat) (x : Nat → Ex) : Prop := 0 < k → ∃ b o, a = some ⟨b, o, none⟩ ∧ ∀ j, j < k → ∃ tu xu, ExOk w (x j) tu xu ∧ ExCells w b (o + j * 8) (x j) tu xu
theorem ExsAt.below {w w' : World} {B k : Nat} {a : Option Addr} {x : Nat → Ex} (h : ExsAt w a k x) (hb : Below B w w') (hB : w.heap.size ≤ B) : ExsAt w' a k x := fun hk => by
  obtain ⟨b, o, rfl, hc⟩ := h hk
  refine ⟨b, o, rfl, fun j hj => ?_⟩
  obtain ⟨tu, xu, hu, hcc⟩ := hc j hj
  exact ⟨tu, xu, ExOk.below hb hB _ _ _ hu, hcc.below hb hB⟩
theorem ExOk.shape {w : World} {e : Ex} {tv xv : Value} (h : ExOk w e tv xv) : ∃ a cap, xv = .slice a e.k cap ∧ e.k ≤ cap ∧ cap ≤ 9223372036854775807 ∧ ExsAt w a e.k e.x := by
  cases e with
  | none => exact h.elim
  | mk op t i s k x =>
    obtain ⟨_, a, cap, rfl, h1, h2, h3⟩ := h
    exact ⟨a, cap, rfl, h1, h2, h3⟩
theorem ExOk.ty {w : World} {e : Ex} {tv xv : Value} (h : ExOk w e tv xv) : TyOk w e.t tv := by
  cases e with
  | none => exact h.elim
  | mk op t i s k x => exact h.1
theorem TyOk.shape {w : World} {t : Ty} {v : Value} (h : TyOk w t v) : ∃ a cap, v = .slice a t.k cap ∧ t.k ≤ cap ∧ cap ≤ 9223372036854775807 := by
  cases t with
  | none => exact h.elim
  | mk f n s k of =>
    obtain ⟨a, cap, rfl, h1, h2, h3⟩ := h
    exact ⟨a, cap, rfl, h1, h2⟩
def tyF (f : Int) : Ty := .mk f 0 ByteArray.empty 0 (fun _ => .none)
def numE (f i : Int) : Ex := .mk 0 (tyF f) i ByteArray.empty 0 (fun _ => .none)
def nilS : Value := .slice none 0 0
theorem TyOk.leaf (w : World) (f : Int) : TyOk w (tyF f) (.slice none 0 0) := ⟨none, 0, rfl, Nat.le_refl _, by decide, fun h => absurd h (by omega)⟩
theorem ExOk.num (w : World) (f i : Int) : ExOk w (numE f i) (.slice none 0 0) (.slice none 0 0) := ⟨TyOk.leaf w f, none, 0, rfl, Nat.le_refl _, by decide, fun h => absurd h (by omega)⟩

theorem below_set8 {w w1 : World} {b : Nat} (h : Below b w w1) (v0 v1 v2 v3 v4 v5 v6 v7 : Value) :
    Below b w ((((((((w1.setCell ⟨b, 0, none⟩ v0).setCell ⟨b, 1, none⟩ v1).setCell ⟨b, 2, none⟩ v2).setCell ⟨b, 3, none⟩ v3).setCell ⟨b, 4, none⟩ v4).setCell ⟨b, 5, none⟩ v5).setCell ⟨b, 6, none⟩ v6).setCell ⟨b, 7, none⟩ v7) :=
  (((((((h.setCell (Nat.le_refl _) _).setCell (Nat.le_refl _) _).setCell (Nat.le_refl _) _).setCell (Nat.le_refl _) _).setCell (Nat.le_refl _) _).setCell (Nat.le_refl _) _).setCell (Nat.le_refl _) _).setCell (Nat.le_refl _) _
theorem some8 {w : World} {b : Nat} {T : TypeId} {v0 v1 v2 v3 v4 v5 v6 v7 : Value} (h : w.heap[b]? = some (.cells #[v0, v1, v2, v3, v4, v5, v6, v7] T (0, 0))) (i : Nat) (hi : i < 8 := by decide) : (w.cell? ⟨b, i, none⟩).isSome = true := by
  rw [cell_of_row _ _ i _ _ _ h]
  rcases (by omega : i = 0 ∨ i = 1 ∨ i = 2 ∨ i = 3 ∨ i = 4 ∨ i = 5 ∨ i = 6 ∨ i = 7) with rfl | rfl | rfl | rfl | rfl | rfl | rfl | rfl <;> rfl

set_option maxHeartbeats 3200000 in
theorem basic_prog (w : World) (f : Int) : Calls Try.prog 19 #[.int .i64 f] w fun e w' => e = .returned (tyV (tyF f) (.slice none 0 0)) ∧ Below w.heap.size w w' := by
  go_enter Try.func19, Try.ntmps19
  go_wp2_with fail
  exact bodyPost_ret (v := .agg #[.int .i64 f, .int .i64 0, .string ByteArray.empty, .slice none 0 0]) (by simp [results, Try.results19, go_sem]; rfl) rfl ⟨rfl, (Below.refl _ _).alloc (Nat.le_refl _) _⟩
set_option maxHeartbeats 3200000 in
theorem num_prog (w : World) (f i : Int) : Calls Try.prog 9 #[.int .i64 f, .int .i32 i] w fun e w' => e = .returned (exV (numE f i) (.slice none 0 0) (.slice none 0 0)) ∧ Below w.heap.size w w' := by
  go_enter Try.func9, Try.ntmps9
  have H := basic_prog
  go_wp2_with fail
  refine (H _ _).mono ?_
  rintro e w2 ⟨he, hb⟩
  obtain rfl : e = .returned (.agg #[.int .i64 f, .int .i64 0, .string ByteArray.empty, .slice none 0 0]) := he
  clear H
  have hz := heap_alloc_new w (.cells #[.int .i64 0, .int .i64 0, .int .i64 0, .string { data := #[] }, .slice none 0 0, .int .i32 0, .string { data := #[] }, .slice none 0 0] 27)
  rw [← hb.block _ (by simp)] at hz
  have f0 := frozen_of_row w2 w.heap.size 0 _ _ hz
  have c0 : w2.cell? ⟨w.heap.size, 0, none⟩ = some (.int .i64 0) := (cell_of_row w2 w.heap.size 0 _ _ _ hz).trans rfl
  have f1 := frozen_of_row w2 w.heap.size 1 _ _ hz
  have c1 : w2.cell? ⟨w.heap.size, 1, none⟩ = some (.int .i64 0) := (cell_of_row w2 w.heap.size 1 _ _ _ hz).trans rfl
  have f2 := frozen_of_row w2 w.heap.size 2 _ _ hz
  have c2 : w2.cell? ⟨w.heap.size, 2, none⟩ = some (.int .i64 0) := (cell_of_row w2 w.heap.size 2 _ _ _ hz).trans rfl
  have f3 := frozen_of_row w2 w.heap.size 3 _ _ hz
  have c3 : w2.cell? ⟨w.heap.size, 3, none⟩ = some (.string { data := #[] }) := (cell_of_row w2 w.heap.size 3 _ _ _ hz).trans rfl
  have f4 := frozen_of_row w2 w.heap.size 4 _ _ hz
  have c4 : w2.cell? ⟨w.heap.size, 4, none⟩ = some (.slice none 0 0) := (cell_of_row w2 w.heap.size 4 _ _ _ hz).trans rfl
  have f5 := frozen_of_row w2 w.heap.size 5 _ _ hz
  have c5 : w2.cell? ⟨w.heap.size, 5, none⟩ = some (.int .i32 0) := (cell_of_row w2 w.heap.size 5 _ _ _ hz).trans rfl
  have f6 := frozen_of_row w2 w.heap.size 6 _ _ hz
  have c6 : w2.cell? ⟨w.heap.size, 6, none⟩ = some (.string { data := #[] }) := (cell_of_row w2 w.heap.size 6 _ _ _ hz).trans rfl
  have f7 := frozen_of_row w2 w.heap.size 7 _ _ hz
  have c7 : w2.cell? ⟨w.heap.size, 7, none⟩ = some (.slice none 0 0) := (cell_of_row w2 w.heap.size 7 _ _ _ hz).trans rfl
  have HS := Lib.hid (show ∀ i, i < 8 → (w2.cell? ⟨w.heap.size, i, none⟩).isSome = true from fun i hi => some8 hz i hi)
  have HB := Lib.hid (((Below.refl _ w).alloc (Nat.le_refl _) _).trans (hb.mono (by simp)))
  clear hz hb
  go_wp2_with fail
  exact bodyPost_ret (v := .agg #[.int .i64 0, .int .i64 f, .int .i64 0, .string ByteArray.empty, .slice none 0 0, .int .i32 i, .string ByteArray.empty, .slice none 0 0]) (by simp [results, Try.results9, go_sem, HS.out 0, HS.out 1, HS.out 2, HS.out 3, HS.out 4, HS.out 5, HS.out 6, HS.out 7]; try rfl) rfl ⟨rfl, below_set8 HB.out _ _ _ _ _ _ _ _⟩
set_option maxHeartbeats 3200000 in
theorem basic_ref (w : World) (f : Int) : Calls Try.prog 10 #[.int .i64 f] w fun e w' => e = .returned (tyV (tyF f) (.slice none 0 0)) ∧ Below w.heap.size w w' := by
  go_enter Try.func10, Try.ntmps10
  go_wp2_with fail
  exact bodyPost_ret (v := .agg #[.int .i64 f, .int .i64 0, .string ByteArray.empty, .slice none 0 0]) (by simp [results, Try.results10, go_sem]; rfl) rfl ⟨rfl, (Below.refl _ _).alloc (Nat.le_refl _) _⟩
set_option maxHeartbeats 3200000 in
theorem num_ref (w : World) (f i : Int) : Calls Try.prog 12 #[.int .i64 f, .int .i32 i] w fun e w' => e = .returned (exV (numE f i) (.slice none 0 0) (.slice none 0 0)) ∧ Below w.heap.size w w' := by
  go_enter Try.func12, Try.ntmps12
  have H := basic_ref
  go_wp2_with fail
  refine (H _ _).mono ?_
  rintro e w2 ⟨he, hb⟩
  obtain rfl : e = .returned (.agg #[.int .i64 f, .int .i64 0, .string ByteArray.empty, .slice none 0 0]) := he
  clear H
  have hz := heap_alloc_new w (.cells #[.int .i64 0, .int .i64 0, .int .i64 0, .string { data := #[] }, .slice none 0 0, .int .i32 0, .string { data := #[] }, .slice none 0 0] 27)
  rw [← hb.block _ (by simp)] at hz
  have f0 := frozen_of_row w2 w.heap.size 0 _ _ hz
  have c0 : w2.cell? ⟨w.heap.size, 0, none⟩ = some (.int .i64 0) := (cell_of_row w2 w.heap.size 0 _ _ _ hz).trans rfl
  have f1 := frozen_of_row w2 w.heap.size 1 _ _ hz
  have c1 : w2.cell? ⟨w.heap.size, 1, none⟩ = some (.int .i64 0) := (cell_of_row w2 w.heap.size 1 _ _ _ hz).trans rfl
  have f2 := frozen_of_row w2 w.heap.size 2 _ _ hz
  have c2 : w2.cell? ⟨w.heap.size, 2, none⟩ = some (.int .i64 0) := (cell_of_row w2 w.heap.size 2 _ _ _ hz).trans rfl
  have f3 := frozen_of_row w2 w.heap.size 3 _ _ hz
  have c3 : w2.cell? ⟨w.heap.size, 3, none⟩ = some (.string { data := #[] }) := (cell_of_row w2 w.heap.size 3 _ _ _ hz).trans rfl
  have f4 := frozen_of_row w2 w.heap.size 4 _ _ hz
  have c4 : w2.cell? ⟨w.heap.size, 4, none⟩ = some (.slice none 0 0) := (cell_of_row w2 w.heap.size 4 _ _ _ hz).trans rfl
  have f5 := frozen_of_row w2 w.heap.size 5 _ _ hz
  have c5 : w2.cell? ⟨w.heap.size, 5, none⟩ = some (.int .i32 0) := (cell_of_row w2 w.heap.size 5 _ _ _ hz).trans rfl
  have f6 := frozen_of_row w2 w.heap.size 6 _ _ hz
  have c6 : w2.cell? ⟨w.heap.size, 6, none⟩ = some (.string { data := #[] }) := (cell_of_row w2 w.heap.size 6 _ _ _ hz).trans rfl
  have f7 := frozen_of_row w2 w.heap.size 7 _ _ hz
  have c7 : w2.cell? ⟨w.heap.size, 7, none⟩ = some (.slice none 0 0) := (cell_of_row w2 w.heap.size 7 _ _ _ hz).trans rfl
  have HS := Lib.hid (show ∀ i, i < 8 → (w2.cell? ⟨w.heap.size, i, none⟩).isSome = true from fun i hi => some8 hz i hi)
  have HB := Lib.hid (((Below.refl _ w).alloc (Nat.le_refl _) _).trans (hb.mono (by simp)))
  clear hz hb
  go_wp2_with fail
  exact bodyPost_ret (v := .agg #[.int .i64 0, .int .i64 f, .int .i64 0, .string ByteArray.empty, .slice none 0 0, .int .i32 i, .string ByteArray.empty, .slice none 0 0]) (by simp [results, Try.results12, go_sem, HS.out 0, HS.out 1, HS.out 2, HS.out 3, HS.out 4, HS.out 5, HS.out 6, HS.out 7]; try rfl) rfl ⟨rfl, below_set8 HB.out _ _ _ _ _ _ _ _⟩
end Go.Proofs.Ytiikeilpgajmfaa
