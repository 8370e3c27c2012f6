/- Need: the law's trees, plain. -/
import Derived.Test.YtmidkomdmnncoaaNd20
namespace Go.Proofs.Ytmidkomdmnncoaa
open Go.RowKit Go.Waf
set_option maxRecDepth 100000
set_option linter.unusedVariables false
set_option linter.unusedSimpArgs false

theorem heap_keep {W W' : World} {g : Nat} {o : Obj} (h : W.heap[g]? = some o) (hb : Below W.heap.size W W') : W'.heap[g]? = some o := by
  rw [hb.block g (Array.getElem?_eq_some_iff.1 h).1]; exact h
def zE : Ex := numE 0 0
def addE (e : Ex) : Ex := .mk 9 (tyF 0) 0 ByteArray.empty 2 (fun j => if j = 0 then zE else e)
def nestE : Nat → Ex
  | 0 => zE
  | n + 1 => addE (nestE n)
def stE (e : Ex) : St := .mk 14 1 (fun _ => e) 0 (fun _ => 0) (fun _ _ => .none) 0 (fun _ => 0)
theorem regs_add (e : Ex) : (addE e).regs = max 1 (max (max 0 ((zE).regs + 0)) (e.regs + 1)) := rfl
theorem regs_nest : ∀ n, (nestE n).regs = n + 1
  | 0 => rfl
  | n + 1 => by
    rw [show (nestE (n + 1)).regs = max 1 (max (max 0 ((zE).regs + 0)) ((nestE n).regs + 1)) from rfl, regs_nest n, show zE.regs = 1 from rfl]
    omega
theorem units_nest : ∀ n s, runEx ueU (nestE n) s = s + (2 * n + 1)
  | 0, s => rfl
  | n + 1, s => by
    rw [show runEx ueU (nestE (n + 1)) s = runEx ueU (nestE n) (runEx ueU (nestE 0) (s + (1 + 0))) from rfl, units_nest n, units_nest 0]
    omega
theorem iter_id {σ : Type} (g : Nat → σ → σ) (hg : ∀ j s, g j s = s) : ∀ n s, iter g n s = s
  | 0, s => rfl
  | n + 1, s => by rw [show iter g (n + 1) s = g n (iter g n s) from rfl, hg, iter_id g hg n s]
theorem runEx_id : ∀ e s, runEx ueR e s = s
  | .none, s => rfl
  | .mk op t i z k x, s => by
    rw [show runEx ueR (.mk op t i z k x) s = iter (fun j => runEx ueR (x j)) k s from rfl]
    exact iter_id _ (fun j s => runEx_id (x j) s) k s
theorem most_body (n : Nat) (qf : Nat → St) : mostM 0 0 qf 1 (fun _ => stE (nestE n)) = n + 1 := by
  rw [show mostM 0 0 qf 1 (fun _ => stE (nestE n)) = runEx ueR (nestE n) (max 0 (nestE n).regs) from rfl, runEx_id, regs_nest]
  omega
theorem units_body (n : Nat) (qf : Nat → St) : unitsM 0 0 qf 1 (fun _ => stE (nestE n)) = 2 * n + 2 := by
  rw [show unitsM 0 0 qf 1 (fun _ => stE (nestE n)) = runEx ueU (nestE n) (0 + (1 + 0)) from rfl, units_nest]
  omega
theorem zE_ok (W : World) : ExOk W zE (.slice none 0 0) (.slice none 0 0) := ⟨TyOk.leaf W 0, none, 0, rfl, Nat.le_refl _, by decide, fun h => absurd h (by omega)⟩
/-- What lies of an expression in eight cells from o on. -/
theorem exCells_of {W : World} {b o : Nat} {e : Ex} {tv xv : Value} (h : ∀ i u, (#[.int .i64 e.op, .int .i64 e.t.form, .int .i64 e.t.num, .string e.t.name, tv, .int .i32 e.i, .string e.s, xv] : Array Value)[i]? = some u → W.cell? ⟨b, o + i, none⟩ = some u) : ExCells W b o e tv xv :=
  ⟨h 0 _ rfl, h 1 _ rfl, h 2 _ rfl, h 3 _ rfl, h 4 _ rfl, h 5 _ rfl, h 6 _ rfl, h 7 _ rfl⟩
/-- Sixteen cells: nothing, and e. -/
def TwoG (W : World) (u : Nat) (e : Ex) (tv xv : Value) : Prop := W.heap[u]? = some (.cells #[.int .i64 0, .int .i64 0, .int .i64 0, .string { data := #[] }, .slice none 0 0, .int .i32 0, .string { data := #[] }, .slice none 0 0, .int .i64 e.op, .int .i64 e.t.form, .int .i64 e.t.num, .string e.t.name, tv, .int .i32 e.i, .string e.s, xv] 36 (0, 0))
theorem ex_add {W : World} {u : Nat} {e : Ex} {tv xv : Value} (h : TwoG W u e tv xv) (hok : ExOk W e tv xv) : ExOk W (addE e) (.slice none 0 0) (.slice (some ⟨u, 0, none⟩) 2 2) := by
  have h : W.heap[u]? = _ := h
  refine ⟨TyOk.leaf W 0, some ⟨u, 0, none⟩, 2, rfl, Nat.le_refl _, by decide, fun _ => ⟨u, 0, rfl, fun j hj => ?_⟩⟩
  rcases (by omega : j = 0 ∨ j = 1) with rfl | rfl
  · exact ⟨_, _, zE_ok W, ⟨rowC h 0 _, rowC h 1 _, rowC h 2 _, rowC h 3 _, rowC h 4 _, rowC h 5 _, rowC h 6 _, rowC h 7 _⟩⟩
  · exact ⟨tv, xv, hok, ⟨rowC h 8 _, rowC h 9 _, rowC h 10 _, rowC h 11 _, rowC h 12 _, rowC h 13 _, rowC h 14 _, rowC h 15 _⟩⟩
theorem sts_body {W : World} {h k : Nat} {e : Ex} {tv xv : Value} {T T' : TypeId} (hh : W.heap[h]? = some (.cells #[.int .i64 e.op, .int .i64 e.t.form, .int .i64 e.t.num, .string e.t.name, tv, .int .i32 e.i, .string e.s, xv] T (0, 0))) (hk : W.heap[k]? = some (.cells #[.int .i64 14, .slice (some ⟨h, 0, none⟩) 1 1, .slice none 0 0, .slice none 0 0] T' (0, 0))) (hok : ExOk W e tv xv) :
    StsAt W (some ⟨k, 0, none⟩) 1 (fun _ => stE e) := fun _ => ⟨k, 0, rfl, fun i hi => by
  obtain rfl : i = 0 := by omega
  exact ⟨.slice (some ⟨h, 0, none⟩) 1 1, .slice none 0 0, .slice none 0 0,
    ⟨⟨_, 1, rfl, Nat.le_refl _, by decide, fun _ => ⟨h, 0, rfl, fun j hj => by
      obtain rfl : j = 0 := by omega
      exact ⟨tv, xv, hok, ⟨rowC hh 0 _, rowC hh 1 _, rowC hh 2 _, rowC hh 3 _, rowC hh 4 _, rowC hh 5 _, rowC hh 6 _, rowC hh 7 _⟩⟩⟩⟩, ⟨none, 0, rfl, Nat.le_refl _, by decide, fun h => absurd h (by omega)⟩, none, 0, rfl, Nat.le_refl _, by decide, fun h => absurd h (by omega)⟩,
    ⟨rowC hk 0 _, rowC hk 1 _, rowC hk 2 _, rowC hk 3 _⟩⟩⟩
def TyG (W : World) (g : Nat) : Prop := W.heap[g]? = some (.cells #[.int .i64 1, .int .i64 0, .string { data := #[] }, .slice none 0 0] 33 (0, 0))
theorem ty_arr {W : World} {g : Nat} (h : TyG W g) (n : Nat) : TyOk W (arrT n) (.slice (some ⟨g, 0, none⟩) 1 1) :=
  ⟨_, 1, rfl, Nat.le_refl _, by decide, fun _ => ⟨g, 0, rfl, fun j hj => by
    obtain rfl : j = 0 := by omega
    exact ⟨.slice none 0 0, TyOk.leaf W 1, rowC h 0 _, rowC h 1 _, rowC h 2 _, rowC h 3 _⟩⟩⟩
/-- A variable: a row of n INTEGERs. -/
theorem vAt_arr {W : World} {b o g n : Nat} {nm : ByteArray} (hc : ∀ i u, (#[.string nm, .bool false, .int .i64 7, .int .i64 (n : Int), .string { data := #[] }, .slice (some ⟨g, 0, none⟩) 1 1] : Array Value)[i]? = some u → W.cell? ⟨b, o + i, none⟩ = some u) (h : TyG W g) (h1 : 1 ≤ n) (h2 : n ≤ 1024) : VAt W b o (n : Int) :=
  ⟨nm, false, 7, n, _, 1, 1, hc 0 _ rfl, hc 1 _ rfl, hc 2 _ rfl, hc 3 _ rfl, hc 4 _ rfl, hc 5 _ rfl, fun V r hb => words_arr V n h1 h2 _ rfl (ty_arr (heap_keep h hb) n) r⟩
theorem good_empty (W : World) (nm : ByteArray) : Good W (Mo.mk nm none 0 0 none 0 0 none 0 0) (fun _ => 0) none 0 0 (fun _ => .none) (fun _ => .none) :=
  ⟨fun h => absurd h (Nat.lt_irrefl 0), fun _ => by omega, ⟨Nat.le_refl _, by show 0 ≤ 9223372036854775807; omega, by show 0 ≤ 100; omega⟩, fun h => absurd h (Nat.lt_irrefl 0), ⟨Nat.le_refl _, by show 0 ≤ 9223372036854775807; omega, by show 0 ≤ 1000; omega⟩, fun h => absurd h (by omega), ⟨Nat.le_refl _, by omega⟩, fun h => absurd h (Nat.lt_irrefl 0), ⟨Nat.le_refl _, by show 0 ≤ 9223372036854775807; omega⟩, by show 0 ≤ 1000000; omega, by show 0 ≤ 1000000; omega⟩
end Go.Proofs.Ytmidkomdmnncoaa
