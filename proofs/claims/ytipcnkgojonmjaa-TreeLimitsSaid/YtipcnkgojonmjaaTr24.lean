/- Trees: the walk of TreeLimits. (Printed by wip/scripts/gen_tr24.py.) -/
import Derived.Test.YtipcnkgojonmjaaTr23
import Derived.Laws.Tables
import Derived.Laws.OwnMore
namespace Go.Proofs.Ytipcnkgojonmjaa
open Go.RowKit Go.Waf
set_option maxRecDepth 100000
set_option linter.unusedVariables false
set_option linter.unusedSimpArgs false

def mdC (vv bv : Value) : Array Value := #[.string { data := #[77] }, .slice none 0 0, .slice none 0 0, .slice none 0 0, .slice none 0 0, vv, .slice none 0 0, bv]
theorem mdC_cells {w : World} {b : Nat} {vv bv : Value} {t : TypeId} (h : w.heap[b]? = some (.cells (mdC vv bv) t (0, 0))) : w.cell? ⟨b, 0, none⟩ = some (.string { data := #[77] }) ∧ w.cell? ⟨b, 1, none⟩ = some (.slice none 0 0) ∧ w.cell? ⟨b, 2, none⟩ = some (.slice none 0 0) ∧ w.cell? ⟨b, 3, none⟩ = some (.slice none 0 0) ∧ w.cell? ⟨b, 4, none⟩ = some (.slice none 0 0) ∧ w.cell? ⟨b, 5, none⟩ = some vv ∧ w.cell? ⟨b, 6, none⟩ = some (.slice none 0 0) ∧ w.cell? ⟨b, 7, none⟩ = some bv :=
  ⟨rowC h 0 _, rowC h 1 _, rowC h 2 _, rowC h 3 _, rowC h 4 _, rowC h 5 _, rowC h 6 _, rowC h 7 _⟩
theorem Keeps.setRow {F : Nat → Prop} (w : World) (g : Nat) (cs : Array Value) (hg : ¬ F g) : Keeps F w (w.setRow g cs) := fun b o v hb hc => by
  have : b ≠ g := fun e => hg (e ▸ hb)
  rw [World.cell?_of_block (a := ⟨b, o, none⟩) (setRow_other w g b cs this)]; exact hc
def exC (op : Int) (xv : Value) : Array Value := #[.int .i64 op, .int .i64 0, .int .i64 0, .string { data := #[] }, .slice none 0 0, .int .i32 0, .string { data := #[] }, xv]
def tyC (f : Int) (v : Value) : Array Value := #[.int .i64 f, .int .i64 0, .string { data := #[] }, v]
theorem exC_all {w : World} {b : Nat} {op : Int} {xv : Value} {t : TypeId} (h : w.heap[b]? = some (.cells (exC op xv) t (0, 0))) : (w.cell? ⟨b, 0, none⟩ = some (.int .i64 op) ∧ w.cell? ⟨b, 1, none⟩ = some (.int .i64 0) ∧ w.cell? ⟨b, 2, none⟩ = some (.int .i64 0) ∧ w.cell? ⟨b, 3, none⟩ = some (.string { data := #[] }) ∧ w.cell? ⟨b, 4, none⟩ = some (.slice none 0 0) ∧ w.cell? ⟨b, 5, none⟩ = some (.int .i32 0) ∧ w.cell? ⟨b, 6, none⟩ = some (.string { data := #[] }) ∧ w.cell? ⟨b, 7, none⟩ = some (xv)) ∧ (w.frozen? ⟨b, 0, none⟩ = false ∧ w.frozen? ⟨b, 1, none⟩ = false ∧ w.frozen? ⟨b, 2, none⟩ = false ∧ w.frozen? ⟨b, 3, none⟩ = false ∧ w.frozen? ⟨b, 4, none⟩ = false ∧ w.frozen? ⟨b, 5, none⟩ = false ∧ w.frozen? ⟨b, 6, none⟩ = false ∧ w.frozen? ⟨b, 7, none⟩ = false) :=
  ⟨⟨rowC h 0 _, rowC h 1 _, rowC h 2 _, rowC h 3 _, rowC h 4 _, rowC h 5 _, rowC h 6 _, rowC h 7 _⟩, ⟨frozen_of_row w b 0 _ _ h, frozen_of_row w b 1 _ _ h, frozen_of_row w b 2 _ _ h, frozen_of_row w b 3 _ _ h, frozen_of_row w b 4 _ _ h, frozen_of_row w b 5 _ _ h, frozen_of_row w b 6 _ _ h, frozen_of_row w b 7 _ _ h⟩⟩
theorem tyC_all {w : World} {b : Nat} {f : Int} {v : Value} {t : TypeId} (h : w.heap[b]? = some (.cells (tyC f v) t (0, 0))) : (w.cell? ⟨b, 0, none⟩ = some (.int .i64 f) ∧ w.cell? ⟨b, 1, none⟩ = some (.int .i64 0) ∧ w.cell? ⟨b, 2, none⟩ = some (.string { data := #[] }) ∧ w.cell? ⟨b, 3, none⟩ = some (v)) ∧ (w.frozen? ⟨b, 0, none⟩ = false ∧ w.frozen? ⟨b, 1, none⟩ = false ∧ w.frozen? ⟨b, 2, none⟩ = false ∧ w.frozen? ⟨b, 3, none⟩ = false) :=
  ⟨⟨rowC h 0 _, rowC h 1 _, rowC h 2 _, rowC h 3 _⟩, ⟨frozen_of_row w b 0 _ _ h, frozen_of_row w b 1 _ _ h, frozen_of_row w b 2 _ _ h, frozen_of_row w b 3 _ _ h⟩⟩
theorem exC_cells {w : World} {b o : Nat} {i : Nat} {xv : Value} (h : ∀ j, j < 8 → w.cell? ⟨b, o + j, none⟩ = (exC (nE i).op xv)[j]?) : ExCells w b o (nE i) (.slice none 0 0) xv := by
  have e : (nE i).t = tyF 0 ∧ (nE i).i = 0 ∧ (nE i).s = ByteArray.empty := by cases i <;> exact ⟨rfl, rfl, rfl⟩
  refine ⟨h 0 (by omega), ?_, ?_, ?_, h 4 (by omega), ?_, ?_, h 7 (by omega)⟩
  · rw [e.1]; exact h 1 (by omega)
  · rw [e.1]; exact h 2 (by omega)
  · rw [e.1]; exact h 3 (by omega)
  · rw [e.2.1]; exact h 5 (by omega)
  · rw [e.2.2]; exact h 6 (by omega)
theorem exOkB_succ {F : Nat → Prop} {w : World} {b i : Nat} {xv : Value} {t : TypeId} (hb : F b) (h : w.heap[b]? = some (.cells (exC (nE i).op xv) t (0, 0))) (hok : ExOkB F w (nE i) (.slice none 0 0) xv) : ExOkB F w (nE (i + 1)) (.slice none 0 0) (.slice (some ⟨b, 0, none⟩) 1 1) := by
  refine ⟨⟨none, 0, rfl, Nat.le_refl _, by decide, fun h => absurd h (by omega)⟩, _, 1, rfl, Nat.le_refl _, by decide, fun _ => ⟨b, 0, rfl, hb, fun j hj => ?_⟩⟩
  obtain rfl : j = 0 := by omega
  exact ⟨_, _, hok, exC_cells fun j hj => by simpa using cell_of_row w b j _ _ _ h⟩
theorem tyOkB_succ {F : Nat → Prop} {w : World} {b i : Nat} {v : Value} {t : TypeId} (hb : F b) (h : w.heap[b]? = some (.cells (tyC (tN i).form v) t (0, 0))) (hok : TyOkB F w (tN i) v) : TyOkB F w (tN (i + 1)) (.slice (some ⟨b, 0, none⟩) 1 1) := by
  have e : (tN i).num = 0 ∧ (tN i).name = ByteArray.empty := by cases i <;> exact ⟨rfl, rfl⟩
  refine ⟨_, 1, rfl, Nat.le_refl _, by decide, fun _ => ⟨b, 0, rfl, hb, fun j hj => ?_⟩⟩
  obtain rfl : j = 0 := by omega
  refine ⟨_, hok, ?_, ?_, ?_, ?_⟩
  · exact rowC h 0 _
  · rw [e.1]; exact rowC h 1 _
  · rw [e.2]; exact rowC h 2 _
  · exact rowC h 3 _
theorem set8 {w : World} {g : Nat} {T : TypeId} {o0 o1 o2 o3 o4 o5 o6 o7 : Value} (h : w.heap[g]? = some (.cells #[o0, o1, o2, o3, o4, o5, o6, o7] T (0, 0))) (v0 v1 v2 v3 v4 v5 v6 v7 : Value) : ((((((((w.setCell ⟨g, 0, none⟩ v0).setCell ⟨g, 1, none⟩ v1).setCell ⟨g, 2, none⟩ v2).setCell ⟨g, 3, none⟩ v3).setCell ⟨g, 4, none⟩ v4).setCell ⟨g, 5, none⟩ v5).setCell ⟨g, 6, none⟩ v6).setCell ⟨g, 7, none⟩ v7).heap[g]? = some (.cells #[v0, v1, v2, v3, v4, v5, v6, v7] T (0, 0)) ∧ (∀ k, k ≠ g → ((((((((w.setCell ⟨g, 0, none⟩ v0).setCell ⟨g, 1, none⟩ v1).setCell ⟨g, 2, none⟩ v2).setCell ⟨g, 3, none⟩ v3).setCell ⟨g, 4, none⟩ v4).setCell ⟨g, 5, none⟩ v5).setCell ⟨g, 6, none⟩ v6).setCell ⟨g, 7, none⟩ v7).heap[k]? = w.heap[k]?) ∧ ((((((((w.setCell ⟨g, 0, none⟩ v0).setCell ⟨g, 1, none⟩ v1).setCell ⟨g, 2, none⟩ v2).setCell ⟨g, 3, none⟩ v3).setCell ⟨g, 4, none⟩ v4).setCell ⟨g, 5, none⟩ v5).setCell ⟨g, 6, none⟩ v6).setCell ⟨g, 7, none⟩ v7).heap.size = w.heap.size := by
  have h0 : (w.setCell ⟨g, 0, none⟩ v0).heap[g]? = some (.cells #[v0, o1, o2, o3, o4, o5, o6, o7] T (0, 0)) := heap_setCell_same w g 0 _ _ _ h
  have h1 : ((w.setCell ⟨g, 0, none⟩ v0).setCell ⟨g, 1, none⟩ v1).heap[g]? = some (.cells #[v0, v1, o2, o3, o4, o5, o6, o7] T (0, 0)) := heap_setCell_same (w.setCell ⟨g, 0, none⟩ v0) g 1 _ _ _ h0
  have h2 : (((w.setCell ⟨g, 0, none⟩ v0).setCell ⟨g, 1, none⟩ v1).setCell ⟨g, 2, none⟩ v2).heap[g]? = some (.cells #[v0, v1, v2, o3, o4, o5, o6, o7] T (0, 0)) := heap_setCell_same ((w.setCell ⟨g, 0, none⟩ v0).setCell ⟨g, 1, none⟩ v1) g 2 _ _ _ h1
  have h3 : ((((w.setCell ⟨g, 0, none⟩ v0).setCell ⟨g, 1, none⟩ v1).setCell ⟨g, 2, none⟩ v2).setCell ⟨g, 3, none⟩ v3).heap[g]? = some (.cells #[v0, v1, v2, v3, o4, o5, o6, o7] T (0, 0)) := heap_setCell_same (((w.setCell ⟨g, 0, none⟩ v0).setCell ⟨g, 1, none⟩ v1).setCell ⟨g, 2, none⟩ v2) g 3 _ _ _ h2
  have h4 : (((((w.setCell ⟨g, 0, none⟩ v0).setCell ⟨g, 1, none⟩ v1).setCell ⟨g, 2, none⟩ v2).setCell ⟨g, 3, none⟩ v3).setCell ⟨g, 4, none⟩ v4).heap[g]? = some (.cells #[v0, v1, v2, v3, v4, o5, o6, o7] T (0, 0)) := heap_setCell_same ((((w.setCell ⟨g, 0, none⟩ v0).setCell ⟨g, 1, none⟩ v1).setCell ⟨g, 2, none⟩ v2).setCell ⟨g, 3, none⟩ v3) g 4 _ _ _ h3
  have h5 : ((((((w.setCell ⟨g, 0, none⟩ v0).setCell ⟨g, 1, none⟩ v1).setCell ⟨g, 2, none⟩ v2).setCell ⟨g, 3, none⟩ v3).setCell ⟨g, 4, none⟩ v4).setCell ⟨g, 5, none⟩ v5).heap[g]? = some (.cells #[v0, v1, v2, v3, v4, v5, o6, o7] T (0, 0)) := heap_setCell_same (((((w.setCell ⟨g, 0, none⟩ v0).setCell ⟨g, 1, none⟩ v1).setCell ⟨g, 2, none⟩ v2).setCell ⟨g, 3, none⟩ v3).setCell ⟨g, 4, none⟩ v4) g 5 _ _ _ h4
  have h6 : (((((((w.setCell ⟨g, 0, none⟩ v0).setCell ⟨g, 1, none⟩ v1).setCell ⟨g, 2, none⟩ v2).setCell ⟨g, 3, none⟩ v3).setCell ⟨g, 4, none⟩ v4).setCell ⟨g, 5, none⟩ v5).setCell ⟨g, 6, none⟩ v6).heap[g]? = some (.cells #[v0, v1, v2, v3, v4, v5, v6, o7] T (0, 0)) := heap_setCell_same ((((((w.setCell ⟨g, 0, none⟩ v0).setCell ⟨g, 1, none⟩ v1).setCell ⟨g, 2, none⟩ v2).setCell ⟨g, 3, none⟩ v3).setCell ⟨g, 4, none⟩ v4).setCell ⟨g, 5, none⟩ v5) g 6 _ _ _ h5
  have h7 : ((((((((w.setCell ⟨g, 0, none⟩ v0).setCell ⟨g, 1, none⟩ v1).setCell ⟨g, 2, none⟩ v2).setCell ⟨g, 3, none⟩ v3).setCell ⟨g, 4, none⟩ v4).setCell ⟨g, 5, none⟩ v5).setCell ⟨g, 6, none⟩ v6).setCell ⟨g, 7, none⟩ v7).heap[g]? = some (.cells #[v0, v1, v2, v3, v4, v5, v6, v7] T (0, 0)) := heap_setCell_same (((((((w.setCell ⟨g, 0, none⟩ v0).setCell ⟨g, 1, none⟩ v1).setCell ⟨g, 2, none⟩ v2).setCell ⟨g, 3, none⟩ v3).setCell ⟨g, 4, none⟩ v4).setCell ⟨g, 5, none⟩ v5).setCell ⟨g, 6, none⟩ v6) g 7 _ _ _ h6
  refine ⟨h7, fun k hk => ?_, by simp [World.setCell]⟩
  rw [Below.heap_setCell _ _ _ _ (by exact hk), Below.heap_setCell _ _ _ _ (by exact hk), Below.heap_setCell _ _ _ _ (by exact hk), Below.heap_setCell _ _ _ _ (by exact hk), Below.heap_setCell _ _ _ _ (by exact hk), Below.heap_setCell _ _ _ _ (by exact hk), Below.heap_setCell _ _ _ _ (by exact hk), Below.heap_setCell _ _ _ _ (by exact hk)]
theorem set4 {w : World} {g : Nat} {T : TypeId} {o0 o1 o2 o3 : Value} (h : w.heap[g]? = some (.cells #[o0, o1, o2, o3] T (0, 0))) (v0 v1 v2 v3 : Value) : ((((w.setCell ⟨g, 0, none⟩ v0).setCell ⟨g, 1, none⟩ v1).setCell ⟨g, 2, none⟩ v2).setCell ⟨g, 3, none⟩ v3).heap[g]? = some (.cells #[v0, v1, v2, v3] T (0, 0)) ∧ (∀ k, k ≠ g → ((((w.setCell ⟨g, 0, none⟩ v0).setCell ⟨g, 1, none⟩ v1).setCell ⟨g, 2, none⟩ v2).setCell ⟨g, 3, none⟩ v3).heap[k]? = w.heap[k]?) ∧ ((((w.setCell ⟨g, 0, none⟩ v0).setCell ⟨g, 1, none⟩ v1).setCell ⟨g, 2, none⟩ v2).setCell ⟨g, 3, none⟩ v3).heap.size = w.heap.size := by
  have h0 : (w.setCell ⟨g, 0, none⟩ v0).heap[g]? = some (.cells #[v0, o1, o2, o3] T (0, 0)) := heap_setCell_same w g 0 _ _ _ h
  have h1 : ((w.setCell ⟨g, 0, none⟩ v0).setCell ⟨g, 1, none⟩ v1).heap[g]? = some (.cells #[v0, v1, o2, o3] T (0, 0)) := heap_setCell_same (w.setCell ⟨g, 0, none⟩ v0) g 1 _ _ _ h0
  have h2 : (((w.setCell ⟨g, 0, none⟩ v0).setCell ⟨g, 1, none⟩ v1).setCell ⟨g, 2, none⟩ v2).heap[g]? = some (.cells #[v0, v1, v2, o3] T (0, 0)) := heap_setCell_same ((w.setCell ⟨g, 0, none⟩ v0).setCell ⟨g, 1, none⟩ v1) g 2 _ _ _ h1
  have h3 : ((((w.setCell ⟨g, 0, none⟩ v0).setCell ⟨g, 1, none⟩ v1).setCell ⟨g, 2, none⟩ v2).setCell ⟨g, 3, none⟩ v3).heap[g]? = some (.cells #[v0, v1, v2, v3] T (0, 0)) := heap_setCell_same (((w.setCell ⟨g, 0, none⟩ v0).setCell ⟨g, 1, none⟩ v1).setCell ⟨g, 2, none⟩ v2) g 3 _ _ _ h2
  refine ⟨h3, fun k hk => ?_, by simp [World.setCell]⟩
  rw [Below.heap_setCell _ _ _ _ (by exact hk), Below.heap_setCell _ _ _ _ (by exact hk), Below.heap_setCell _ _ _ _ (by exact hk), Below.heap_setCell _ _ _ _ (by exact hk)]
theorem atNew {V : World} {a : Array Value} {t : TypeId} {p : Nat} (h : p = V.heap.size) : (V.alloc (.cells a t)).heap[p]? = some (.cells a t (0, 0)) := by subst h; exact heap_alloc_new V _
/-- The end: both say so. -/
def Ends (w W : World) (vv bv : Value) (R : Bool) : Prop := ∀ V, Below W.heap.size W V → (Calls Try.prog 5 #[.agg (mdC vv bv)] V fun en w' => en = .returned (.bool R) ∧ Below V.heap.size V w') ∧ (Calls Try.prog 6 #[.agg (mdC vv bv)] V fun en w' => en = .returned (.bool R) ∧ Below V.heap.size V w')
theorem ends_of (w W : World) (va : Option Addr) (nv vc : Nat) (x : Nat → Vr) (ba : Option Addr) (nb bc : Nat) (f : Nat → St) (R : Bool) (h1 : nv ≤ vc) (h2 : vc ≤ 9223372036854775807) (h3 : nb ≤ bc) (h4 : bc ≤ 9223372036854775807) (hv : VrsAt W va nv x) (hb : StsAt W ba nb f) (hd : DepsOk nb f) (hn : nestS nb f ≤ 100000) (hR : smMod nv x nb f = R) :
    Ends w W (.slice va nv vc) (.slice ba nb bc) R := fun V hbv => by
  subst hR
  exact ⟨small_prog V va nv vc x ba nb bc f h1 h2 h3 h4 (hv.below hbv (Nat.le_refl _)) (hb.below hbv (Nat.le_refl _)) hd hn, small_ref V va nv vc x ba nb bc f h1 h2 h3 h4 (hv.below hbv (Nat.le_refl _)) (hb.below hbv (Nat.le_refl _)) hd hn⟩
theorem vrs0 (w : World) (x : Nat → Vr) : VrsAt w none 0 x := fun h => absurd h (by omega)
theorem sts0 (w : World) (x : Nat → St) : StsAt w none 0 x := fun h => absurd h (by omega)
def vr0 : Vr := ⟨ByteArray.empty, false, .none⟩
set_option maxHeartbeats 6400000 in
theorem treeLimits_0 (w : World) (a0 a1 : Int) (q : Nat) (h0 : 0 ≤ a0 ∧ a0 ≤ 255) (h1 : 0 ≤ a1 ∧ a1 ≤ 255) (hw : a0 % 5 = 0) (hq : a1 % 5 = (q : Int)) (hq4 : q ≤ 4) (R : Bool) (hR : R = decide (q ≤ 2)) :
    Calls Try.prog 3 #[.int .u8 a0, .int .u8 a1] w fun e w' => e = .returned (.bool true) ∧ Below w.heap.size w w' := by
  have hR2 : decide ((q : Int) - 2 ≤ 0) = R := by rw [hR]; exact decide_eq_decide.2 (by omega)
  have HRR := Lib.hid hR
  have HR2 := Lib.hid hR2
  obtain ⟨p0, p1⟩ := h0
  obtain ⟨p2, p3⟩ := h1
  clear hR hR2
  go_enter Try.func3, Try.ntmps3
  go_wp2_with fail
  refine (known_prog w).mono ?_
  rintro en w1 ⟨rfl, hbk⟩
  have HB1 := Lib.hid hbk
  clear hbk
  go_wp2_with fail
  obtain ⟨w2, hw2⟩ : ∃ w2 : World, w2 = (w1.alloc (.cells #[.string { data := #[77] }, .slice none 0 0, .slice none 0 0, .slice none 0 0, .slice none 0 0, .slice none 0 0, .slice none 0 0, .slice none 0 0] 30)).alloc (.cells #[.int .i64 0, .int .i64 0, .int .i64 0, .string { data := #[] }, .slice none 0 0, .int .i32 0, .string { data := #[] }, .slice none 0 0] 36) := ⟨_, rfl⟩
  rw [← hw2]
  have HM2 := Lib.hid (show w2.heap[w1.heap.size]? = some (.cells (mdC (.slice none 0 0) (.slice none 0 0)) 30 (0, 0)) from by rw [hw2]; exact heap_alloc2_old w1 _ _)
  have HE2 := Lib.hid (show w2.heap[w1.heap.size + 1]? = some (.cells (exC 0 (.slice none 0 0)) 36 (0, 0)) from by rw [hw2]; exact heap_alloc2_new w1 _ _)
  have HB2 := Lib.hid (show Below w.heap.size w w2 from by rw [hw2]; exact (HB1.out.alloc HB1.out.size _).alloc (by have := HB1.out.size; simp; omega) _)
  have hs1 := HB1.out.size
  clear hw2


  go_loopw [8] (fun z wr => ∃ (i : Nat) (xv : Value), z = .int .i64 ((i + 1 : Nat) : Int) ∧ i + 1 ≤ 62 + q ∧ wr.heap[w1.heap.size + 1]? = some (.cells (exC (nE i).op xv) 36 (0, 0)) ∧ ExOkB (fun b => b ≠ w1.heap.size + 1 ∧ b ≠ w1.heap.size) wr (nE i) (.slice none 0 0) xv ∧ wr.heap[w1.heap.size]? = some (.cells (mdC (.slice none 0 0) (.slice none 0 0)) 30 (0, 0)) ∧ Below w.heap.size w wr) (fun z _ => 62 + q - (intOf z).toNat)
  case atStart => exact ⟨0, .slice none 0 0, rfl, by omega, HE2.out, ⟨⟨none, 0, rfl, Nat.le_refl _, by decide, fun h => absurd h (by omega)⟩, none, 0, rfl, Nat.le_refl _, by decide, fun h => absurd h (by omega)⟩, HM2.out, HB2.out⟩
  case round =>
    obtain ⟨i, xv, rfl, hi, he, hok, hm, hb⟩ := hrel
    obtain ⟨wo, rfl⟩ : ∃ wo : World, wo = wr := ⟨_, rfl⟩
    obtain ⟨⟨c0, c1, c2, c3, c4, c5, c6, c7⟩, f0, f1, f2, f3, f4, f5, f6, f7⟩ := exC_all he
    have hel := (Array.getElem?_eq_some_iff.1 he).1
    have hml := (Array.getElem?_eq_some_iff.1 hm).1
    obtain ⟨xa, xc, rfl, _, _, _⟩ := (ExOkB.ok _ _ _ hok).shape
    obtain ⟨op, hop⟩ : ∃ o, o = (nE i).op := ⟨_, rfl⟩
    obtain ⟨K, hK⟩ : ∃ o, o = (nE i).k := ⟨_, rfl⟩
    rw [← hop] at c0
    rw [← hK] at c7
    have HE := Lib.hid he
    have HOK := Lib.hid hok
    have HM := Lib.hid hm
    have HB := Lib.hid hb
    have hsz := hb.size
    have HOP := Lib.hid hop
    have HKK := Lib.hid hK
    clear he hok hm hb hop hK
    by_cases hlt : i + 1 < 62 + q
    · have HEC := Lib.hid (show wo.heap[w1.heap.size + 1]? = some (.cells (exC op (.slice xa K xc)) 36 (0, 0)) from by rw [HOP.out, HKK.out]; exact HE.out)
      go_wp2_with fail
      go_roundw
      case rel =>
        have h8 := set8 HEC.out (.int .i64 8) (.int .i64 0) (.int .i64 0) (.string { data := #[] }) (.slice none 0 0) (.int .i32 0) (.string { data := #[] }) (.slice (some ⟨wo.heap.size, 0, none⟩) 1 1)
        refine ⟨i + 1, .slice (some ⟨wo.heap.size, 0, none⟩) 1 1, by go_num, by omega, blk_alloc h8.1 _, ?_, blk_alloc ((h8.2.1 _ (by omega)).trans HM.out) _, ?_⟩
        · refine exOkB_succ (F := fun b => b ≠ w1.heap.size + 1 ∧ b ≠ w1.heap.size) (b := wo.heap.size) (xv := .slice xa (nE i).k xc) (t := 36) ⟨by omega, by omega⟩ ?_ (ExOkB.imp (fun b hb => hb) ?_ _ _ _ HOK.out)
          · rw [← HOP.out, ← HKK.out]
            exact atNew h8.2.2.symm
          · refine Keeps.trans ?_ (Keeps.below ((Below.refl _ _).alloc (Nat.le_refl _) _))
            repeat (refine Keeps.trans ?_ (Keeps.set _ _ _ (fun h => h.1 rfl)))
            exact fun b o u _ h => h
        · refine Below.alloc ?_ (by rw [h8.2.2]; exact hsz) _
          repeat (refine Below.setCell ?_ (by simp; omega) _)
          exact HB.out
      case measure => simp [intOf]; omega
    · have hi2 : i + 1 = 62 + q := by omega
      have HI2 := Lib.hid hi2
      obtain ⟨m0, m1, m2, m3, m4, m5, m6, m7⟩ := mdC_cells HM.out
      have f7 := frozen_of_row wo w1.heap.size 7 _ _ HM.out
      clear hi2
      go_upto_region 30 with fail
      obtain ⟨wz, hwz⟩ : ∃ wz : World, wz = ((wo.setCell ⟨w1.heap.size, 7, none⟩ (.slice (some ⟨wo.heap.size + 1, 0, none⟩) 1 1)).alloc (.cells #[.int .i64 op, .int .i64 0, .int .i64 0, .string { data := #[] }, .slice none 0 0, .int .i32 0, .string { data := #[] }, .slice xa K xc] 36)).alloc (.cells #[.int .i64 12, .slice (some ⟨wo.heap.size, 0, none⟩) 1 1, .slice none 0 0, .slice none 0 0] 40) := ⟨_, rfl⟩
      rw [← hwz]
      have hss : (wo.setCell ⟨w1.heap.size, 7, none⟩ (.slice (some ⟨wo.heap.size + 1, 0, none⟩) 1 1)).heap.size = wo.heap.size := by simp [World.setCell]
      have hmz : wz.heap[w1.heap.size]? = some (.cells (mdC (.slice none 0 0) (.slice (some ⟨wo.heap.size + 1, 0, none⟩) 1 1)) 30 (0, 0)) := by
        rw [hwz]; exact blk_alloc (blk_alloc (heap_setCell_same wo w1.heap.size 7 _ _ _ HM.out) _) _
      have hez : wz.heap[wo.heap.size]? = some (.cells (exC (nE i).op (.slice xa (nE i).k xc)) 36 (0, 0)) := by
        rw [hwz, ← HOP.out, ← HKK.out]; exact blk_alloc (atNew hss.symm) _
      have hsz2 : wz.heap[wo.heap.size + 1]? = some (.cells #[.int .i64 12, .slice (some ⟨wo.heap.size, 0, none⟩) 1 1, .slice none 0 0, .slice none 0 0] 40 (0, 0)) := by
        rw [hwz]; exact atNew (by simp [World.setCell])
      have hok2 : ExOk wz (nE i) (.slice none 0 0) (.slice xa (nE i).k xc) := by
        refine ExOkB.ok _ _ _ (ExOkB.imp (F' := fun _ => True) (fun b _ => trivial) ?_ _ _ _ HOK.out)
        rw [hwz]
        exact ((Keeps.set _ _ _ (fun h => h.2 rfl)).trans (Keeps.below ((Below.refl _ _).alloc (Nat.le_refl _) _))).trans (Keeps.below ((Below.refl _ _).alloc (Nat.le_refl _) _))
      have hst : StsAt wz (some ⟨wo.heap.size + 1, 0, none⟩) 1 (fun _ => sA i) := fun _ => ⟨_, 0, rfl, fun j hj => by
        obtain rfl : j = 0 := by omega
        refine ⟨_, _, _, ⟨⟨_, _, rfl, Nat.le_refl _, by decide, fun _ => ⟨_, 0, rfl, fun j hj => ?_⟩⟩, IntsIn.nil _ _, none, 0, rfl, Nat.le_refl _, by decide, fun h => absurd h (by omega)⟩, ⟨rowC hsz2 0 _, rowC hsz2 1 _, rowC hsz2 2 _, rowC hsz2 3 _⟩⟩
        obtain rfl : j = 0 := by have hj : j < 1 := hj; omega
        exact ⟨_, _, hok2, exC_cells fun j hj => by simpa using cell_of_row wz _ j _ _ _ hez⟩⟩
      have HEND := Lib.hid (ends_of w wz none 0 0 (fun _ => vr0) (some ⟨wo.heap.size + 1, 0, none⟩) 1 1 (fun _ => sA i) R (Nat.le_refl _) (by decide) (Nat.le_refl _) (by decide) (vrs0 _ _) hst (sA_dep i (by omega)) (by rw [sA_nest]; omega) (by rw [sA_small, HRR.out]; exact decide_eq_decide.2 (by have := HI2.out; omega)))
      have HBW := Lib.hid (show Below w.heap.size w wz from by
        rw [hwz]
        exact ((HB.out.setCell (by simp; omega) _).alloc (by rw [hss]; exact hsz) _).alloc (by simp [World.setCell]; omega) _)
      have HMZ := Lib.hid hmz
      clear hwz hss hmz hez hsz2 hok2 hst HM c0 c1 c2 c3 c4 c5 c6 c7 f0 f1 f2 f3 f4 f5 f6 f7 m0 m1 m2 m3 m4 m5 m6 m7
      have hdq := HR2.out
      have HM := HMZ
      unfold Ends at HEND
      unfold mdC at HEND
      clear HR2 HRR
      cases R
      · obtain ⟨m0, m1, m2, m3, m4, m5, m6, m7⟩ := mdC_cells HM.out
        go_wp2_with fail
        refine (HEND.out wz (Below.refl _ _)).1.mono ?_
        rintro en x1 ⟨rfl, hb⟩
        obtain ⟨n0, n1, n2, n3, n4, n5, n6, n7⟩ := mdC_cells (show x1.heap[w1.heap.size]? = _ from (hb.block _ (Array.getElem?_eq_some_iff.1 HM.out).1).trans HM.out)
        have HX1 := Lib.hid hb
        clear hb
        go_wp2_with fail
        refine (HEND.out x1 HX1.out).2.mono ?_
        rintro en x2 ⟨rfl, hb⟩
        have HX2 := Lib.hid (HBW.out.trans ((HX1.out.trans (hb.mono HX1.out.size)).mono HBW.out.size))
        clear hb
        go_wp2_with fail
        go_ret
        exact ⟨rfl, HX2.out⟩
      · obtain ⟨m0, m1, m2, m3, m4, m5, m6, m7⟩ := mdC_cells HM.out
        go_wp2_with fail
        refine (HEND.out wz (Below.refl _ _)).1.mono ?_
        rintro en x1 ⟨rfl, hb⟩
        obtain ⟨n0, n1, n2, n3, n4, n5, n6, n7⟩ := mdC_cells (show x1.heap[w1.heap.size]? = _ from (hb.block _ (Array.getElem?_eq_some_iff.1 HM.out).1).trans HM.out)
        have HX1 := Lib.hid hb
        clear hb
        go_wp2_with fail
        refine (HEND.out x1 HX1.out).2.mono ?_
        rintro en x2 ⟨rfl, hb⟩
        have HX2 := Lib.hid (HBW.out.trans ((HX1.out.trans (hb.mono HX1.out.size)).mono HBW.out.size))
        clear hb
        go_wp2_with fail
        go_ret
        exact ⟨rfl, HX2.out⟩
end Go.Proofs.Ytipcnkgojonmjaa
