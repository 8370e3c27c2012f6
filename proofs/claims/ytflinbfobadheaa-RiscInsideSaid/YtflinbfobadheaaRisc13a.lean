/- The eight stores of an instruction into its box. -/
import Derived.Test.YtflinbfobadheaaRisc12
namespace Go.Proofs.Ytflinbfobadheaa
open Go.RowKit Go.Waf
set_option maxRecDepth 100000
def put8 (W : World) (g : Nat) (i : Ins) : World :=
  (((((((W.setCell ⟨g, 0, none⟩ (.int .i64 i.f)).setCell ⟨g, 1, none⟩ (.bool i.u)).setCell ⟨g, 2, none⟩ (.bool i.v)).setCell ⟨g, 3, none⟩ (.int .i64 i.a)).setCell ⟨g, 4, none⟩ (.int .i64 i.b)).setCell ⟨g, 5, none⟩ (.int .i64 i.c)).setCell ⟨g, 6, none⟩ (.int .i64 i.op)).setCell ⟨g, 7, none⟩ (.int .i32 i.imm)
theorem set_in {W : World} {g : Nat} (k : Nat) (v : Value) (h : ∀ j, j < 8 → ∃ u, W.cell? ⟨g, j, none⟩ = some u) : ∀ j, j < 8 → ∃ u, (W.setCell ⟨g, k, none⟩ v).cell? ⟨g, j, none⟩ = some u := by
  intro j hj
  obtain ⟨u, hu⟩ := h j hj
  by_cases hk : j = k
  · subst hk; exact ⟨v, World.cell?_setCell_same W _ v hu⟩
  · exact ⟨u, by rw [World.cell?_setCell_other W _ _ v (by intro h; injection h with _ h _; omega)]; exact hu⟩
theorem set_at {W : World} {g : Nat} (k : Nat) (v : Value) (h : ∀ j, j < 8 → ∃ u, W.cell? ⟨g, j, none⟩ = some u) (j : Nat) (hj : j < 8) : (W.setCell ⟨g, k, none⟩ v).cell? ⟨g, j, none⟩ = if j = k then some v else W.cell? ⟨g, j, none⟩ := by
  obtain ⟨u, hu⟩ := h j hj
  by_cases hk : j = k
  · subst hk; rw [if_pos rfl]; exact World.cell?_setCell_same W _ v hu
  · rw [if_neg hk]; exact World.cell?_setCell_other W _ _ v (by intro h; injection h with _ h _; omega)
theorem put8_cells (W : World) (g : Nat) (i : Ins) (h : ∀ j, j < 8 → ∃ u, W.cell? ⟨g, j, none⟩ = some u) :
    ∀ j, j < 8 → (put8 W g i).cell? ⟨g, j, none⟩ = (boxOf i)[j]? := by
  intro j hj
  have h0 := set_in 0 (.int .i64 i.f) h
  have h1 := set_in 1 (.bool i.u) h0
  have h2 := set_in 2 (.bool i.v) h1
  have h3 := set_in 3 (.int .i64 i.a) h2
  have h4 := set_in 4 (.int .i64 i.b) h3
  have h5 := set_in 5 (.int .i64 i.c) h4
  have h6 := set_in 6 (.int .i64 i.op) h5
  unfold put8
  rw [set_at 7 (.int .i32 i.imm) h6 j hj, set_at 6 (.int .i64 i.op) h5 j hj, set_at 5 (.int .i64 i.c) h4 j hj, set_at 4 (.int .i64 i.b) h3 j hj, set_at 3 (.int .i64 i.a) h2 j hj, set_at 2 (.bool i.v) h1 j hj, set_at 1 (.bool i.u) h0 j hj, set_at 0 (.int .i64 i.f) h j hj]
  have hc : j = 0 ∨ j = 1 ∨ j = 2 ∨ j = 3 ∨ j = 4 ∨ j = 5 ∨ j = 6 ∨ j = 7 := by omega
  rcases hc with rfl | rfl | rfl | rfl | rfl | rfl | rfl | rfl <;> rfl
theorem put8_below {w W : World} {g : Nat} (i : Ins) (h : Below w.heap.size w W) (hg : w.heap.size ≤ g) : Below w.heap.size w (put8 W g i) := by
  unfold put8
  exact (((((((h.setCell hg _).setCell hg _).setCell hg _).setCell hg _).setCell hg _).setCell hg _).setCell hg _).setCell hg _
theorem zeroed {W : World} {g : Nat} {T : TypeId} (h : W.heap[g]? = some (.cells #[.int .i64 0, .bool false, .bool false, .int .i64 0, .int .i64 0, .int .i64 0, .int .i64 0, .int .i32 0] T (0, 0))) : ∀ j, j < 8 → ∃ u, W.cell? ⟨g, j, none⟩ = some u := by
  intro j hj
  rw [cell_of_row W g j _ _ _ h]
  have hc : j = 0 ∨ j = 1 ∨ j = 2 ∨ j = 3 ∨ j = 4 ∨ j = 5 ∨ j = 6 ∨ j = 7 := by omega
  rcases hc with rfl | rfl | rfl | rfl | rfl | rfl | rfl | rfl <;> exact ⟨_, rfl⟩
theorem eight {P : Nat → Prop} (h0 : P 0) (h1 : P 1) (h2 : P 2) (h3 : P 3) (h4 : P 4) (h5 : P 5) (h6 : P 6) (h7 : P 7) : ∀ j, j < 8 → P j := by
  intro j hj
  have hc : j = 0 ∨ j = 1 ∨ j = 2 ∨ j = 3 ∨ j = 4 ∨ j = 5 ∨ j = 6 ∨ j = 7 := by omega
  rcases hc with rfl | rfl | rfl | rfl | rfl | rfl | rfl | rfl <;> assumption
theorem below_drewN (w : World) (n : Nat) : Below w.heap.size w (w.drewN n) := ⟨rfl, rfl, rfl, Nat.le_refl _, fun _ _ => rfl⟩
theorem below_late {w w3 : World} {n : Nat} {o : Obj} (h : Below ((w.drewN n).alloc o).heap.size ((w.drewN n).alloc o) w3) : Below w.heap.size w w3 :=
  ((below_drewN w n).alloc (Nat.le_refl _) o).trans (h.mono (by show w.heap.size ≤ (w.heap.push o).size; rw [Array.size_push]; omega))
theorem below_soon {w w3 : World} {n : Nat} (h : Below (w.drewN n).heap.size (w.drewN n) w3) : Below w.heap.size w w3 := (below_drewN w n).trans h
end Go.Proofs.Ytflinbfobadheaa
