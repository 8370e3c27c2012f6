/- Trees: known. (Printed by wip/scripts/gen_tr22.py.) -/
import Derived.Test.YtipcnkgojonmjaaTr21
namespace Go.Proofs.Ytipcnkgojonmjaa
open Go.RowKit Go.Waf
set_option maxRecDepth 100000
set_option linter.unusedVariables false
set_option linter.unusedSimpArgs false

theorem blk5 {w : World} (o0 o1 o2 o3 o4 : Obj) : let W := ((((w.alloc o0).alloc o1).alloc o2).alloc o3).alloc o4
    W.heap[w.heap.size]? = some o0 ∧ W.heap[w.heap.size + 1]? = some o1 ∧ W.heap[w.heap.size + 2]? = some o2 ∧ W.heap[w.heap.size + 3]? = some o3 ∧ W.heap[w.heap.size + 4]? = some o4 := by
  have s : ∀ (V : World) (o : Obj), (V.alloc o).heap.size = V.heap.size + 1 := fun V o => by simp
  have n : ∀ (V : World) (o : Obj) (k : Nat), k = V.heap.size → (V.alloc o).heap[k]? = some o := fun V o k h => by subst h; exact heap_alloc_new V o
  exact ⟨blk_alloc (blk_alloc (blk_alloc (blk_alloc (n w o0 _ rfl) _) _) _) _, blk_alloc (blk_alloc (blk_alloc (n _ o1 _ (by simp)) _) _) _, blk_alloc (blk_alloc (n _ o2 _ (by simp)) _) _, blk_alloc (n _ o3 _ (by simp)) _, n _ o4 _ (by simp)⟩
/-- The trees of known lie in memory. -/
theorem known_trees (w W : World) (h : W = ((((w.alloc (.cells #[.int .i64 0, .int .i64 0, .int .i64 0, .string { data := #[] }, .slice none 0 0, .int .i32 0, .string { data := #[] }, .slice none 0 0, .int .i64 0, .int .i64 0, .int .i64 0, .string { data := #[] }, .slice none 0 0, .int .i32 0, .string { data := #[] }, .slice none 0 0] 36)).alloc (.cells #[.int .i64 9, .int .i64 0, .int .i64 0, .string { data := #[] }, .slice none 0 0, .int .i32 0, .string { data := #[] }, .slice (some ⟨w.heap.size, 0, none⟩) 2 2] 36)).alloc (.cells #[.int .i64 9, .int .i64 0, .int .i64 0, .string { data := #[] }, .slice none 0 0, .int .i32 0, .string { data := #[] }, .slice (some ⟨w.heap.size, 0, none⟩) 2 2] 36)).alloc (.cells #[.int .i64 14, .slice (some ⟨w.heap.size + 1 + 1, 0, none⟩) 1 1, .slice none 0 0, .slice none 0 0] 40)).alloc (.cells #[.string { data := #[77] }, .slice none 0 0, .slice none 0 0, .slice none 0 0, .slice none 0 0, .slice none 0 0, .slice none 0 0, .slice (some ⟨w.heap.size + 1 + 1 + 1, 0, none⟩) 1 1] 30)) : Below w.heap.size w W ∧ ExOk W kE (.slice none 0 0) (.slice (some ⟨w.heap.size, 0, none⟩) 2 2) ∧ StsAt W (some ⟨w.heap.size + 1 + 1 + 1, 0, none⟩) 1 (fun _ => kS) ∧ W.cell? ⟨w.heap.size + 1 + 1 + 1, 3, none⟩ = some (.slice none 0 0) ∧ (W.cell? ⟨w.heap.size + 1, 0, none⟩ = some (.int .i64 9) ∧ W.cell? ⟨w.heap.size + 1, 1, none⟩ = some (.int .i64 0) ∧ W.cell? ⟨w.heap.size + 1, 2, none⟩ = some (.int .i64 0) ∧ W.cell? ⟨w.heap.size + 1, 3, none⟩ = some (.string { data := #[] }) ∧ W.cell? ⟨w.heap.size + 1, 4, none⟩ = some (.slice none 0 0) ∧ W.cell? ⟨w.heap.size + 1, 5, none⟩ = some (.int .i32 0) ∧ W.cell? ⟨w.heap.size + 1, 6, none⟩ = some (.string { data := #[] }) ∧ W.cell? ⟨w.heap.size + 1, 7, none⟩ = some (.slice (some ⟨w.heap.size, 0, none⟩) 2 2)) ∧ (W.cell? ⟨w.heap.size + 1 + 1 + 1 + 1, 0, none⟩ = some (.string { data := #[77] }) ∧ W.cell? ⟨w.heap.size + 1 + 1 + 1 + 1, 1, none⟩ = some (.slice none 0 0) ∧ W.cell? ⟨w.heap.size + 1 + 1 + 1 + 1, 2, none⟩ = some (.slice none 0 0) ∧ W.cell? ⟨w.heap.size + 1 + 1 + 1 + 1, 3, none⟩ = some (.slice none 0 0) ∧ W.cell? ⟨w.heap.size + 1 + 1 + 1 + 1, 4, none⟩ = some (.slice none 0 0) ∧ W.cell? ⟨w.heap.size + 1 + 1 + 1 + 1, 5, none⟩ = some (.slice none 0 0) ∧ W.cell? ⟨w.heap.size + 1 + 1 + 1 + 1, 6, none⟩ = some (.slice none 0 0) ∧ W.cell? ⟨w.heap.size + 1 + 1 + 1 + 1, 7, none⟩ = some (.slice (some ⟨w.heap.size + 1 + 1 + 1, 0, none⟩) 1 1)) := by
  have hb : Below w.heap.size w W := by
    rw [h]
    exact ((((Below.refl _ _).alloc (Nat.le_refl _) _).alloc (by simp) _).alloc (by simp; omega) _).alloc (by simp; omega) _ |>.alloc (by simp; omega) _
  obtain ⟨g0, g1, g2, g3, g4⟩ := blk5 (w := w) (.cells #[.int .i64 0, .int .i64 0, .int .i64 0, .string { data := #[] }, .slice none 0 0, .int .i32 0, .string { data := #[] }, .slice none 0 0, .int .i64 0, .int .i64 0, .int .i64 0, .string { data := #[] }, .slice none 0 0, .int .i32 0, .string { data := #[] }, .slice none 0 0] 36) (.cells #[.int .i64 9, .int .i64 0, .int .i64 0, .string { data := #[] }, .slice none 0 0, .int .i32 0, .string { data := #[] }, .slice (some ⟨w.heap.size, 0, none⟩) 2 2] 36) (.cells #[.int .i64 9, .int .i64 0, .int .i64 0, .string { data := #[] }, .slice none 0 0, .int .i32 0, .string { data := #[] }, .slice (some ⟨w.heap.size, 0, none⟩) 2 2] 36) (.cells #[.int .i64 14, .slice (some ⟨w.heap.size + 1 + 1, 0, none⟩) 1 1, .slice none 0 0, .slice none 0 0] 40) (.cells #[.string { data := #[77] }, .slice none 0 0, .slice none 0 0, .slice none 0 0, .slice none 0 0, .slice none 0 0, .slice none 0 0, .slice (some ⟨w.heap.size + 1 + 1 + 1, 0, none⟩) 1 1] 30)
  rw [← h] at g0 g1 g2 g3 g4
  have hE : ExOk W kE (.slice none 0 0) (.slice (some ⟨w.heap.size, 0, none⟩) 2 2) := by
    refine ⟨TyOk.leaf W 0, _, _, rfl, Nat.le_refl _, by decide, fun _ => ⟨_, 0, rfl, fun j hj => ⟨.slice none 0 0, .slice none 0 0, ExOk.num W 0 0, ?_⟩⟩⟩
    rcases (by omega : j = 0 ∨ j = 1) with rfl | rfl
    · exact ⟨rowC g0 0 _, rowC g0 1 _, rowC g0 2 _, rowC g0 3 _, rowC g0 4 _, rowC g0 5 _, rowC g0 6 _, rowC g0 7 _⟩
    · exact ⟨rowC g0 8 _, rowC g0 9 _, rowC g0 10 _, rowC g0 11 _, rowC g0 12 _, rowC g0 13 _, rowC g0 14 _, rowC g0 15 _⟩
  have hS : StOk W kS (.slice (some ⟨w.heap.size + 1 + 1, 0, none⟩) 1 1) (.slice none 0 0) (.slice none 0 0) := by
    refine ⟨⟨_, _, rfl, Nat.le_refl _, by decide, fun _ => ⟨_, 0, rfl, fun j hj => ?_⟩⟩, IntsIn.nil _ _, none, 0, rfl, Nat.le_refl _, by decide, fun h => absurd h (by omega)⟩
    obtain rfl : j = 0 := by omega
    exact ⟨_, _, hE, ⟨rowC g2 0 _, rowC g2 1 _, rowC g2 2 _, rowC g2 3 _, rowC g2 4 _, rowC g2 5 _, rowC g2 6 _, rowC g2 7 _⟩⟩
  refine ⟨hb, hE, fun _ => ⟨_, 0, rfl, fun i hi => ?_⟩, rowC g3 3 _, ⟨rowC g1 0 _, rowC g1 1 _, rowC g1 2 _, rowC g1 3 _, rowC g1 4 _, rowC g1 5 _, rowC g1 6 _, rowC g1 7 _⟩, ⟨rowC g4 0 _, rowC g4 1 _, rowC g4 2 _, rowC g4 3 _, rowC g4 4 _, rowC g4 5 _, rowC g4 6 _, rowC g4 7 _⟩⟩
  obtain rfl : i = 0 := by omega
  exact ⟨_, _, _, hS, ⟨rowC g3 0 _, rowC g3 1 _, rowC g3 2 _, rowC g3 3 _⟩⟩
set_option maxHeartbeats 6400000 in
theorem known_prog (w : World) : Calls Try.prog 4 #[] w fun e w' => e = .returned (.bool true) ∧ Below w.heap.size w w' := by
  obtain ⟨w1, hw1⟩ : ∃ w1 : World, w1 = ((((w.alloc (.cells #[.int .i64 0, .int .i64 0, .int .i64 0, .string { data := #[] }, .slice none 0 0, .int .i32 0, .string { data := #[] }, .slice none 0 0, .int .i64 0, .int .i64 0, .int .i64 0, .string { data := #[] }, .slice none 0 0, .int .i32 0, .string { data := #[] }, .slice none 0 0] 36)).alloc (.cells #[.int .i64 9, .int .i64 0, .int .i64 0, .string { data := #[] }, .slice none 0 0, .int .i32 0, .string { data := #[] }, .slice (some ⟨w.heap.size, 0, none⟩) 2 2] 36)).alloc (.cells #[.int .i64 9, .int .i64 0, .int .i64 0, .string { data := #[] }, .slice none 0 0, .int .i32 0, .string { data := #[] }, .slice (some ⟨w.heap.size, 0, none⟩) 2 2] 36)).alloc (.cells #[.int .i64 14, .slice (some ⟨w.heap.size + 1 + 1, 0, none⟩) 1 1, .slice none 0 0, .slice none 0 0] 40)).alloc (.cells #[.string { data := #[77] }, .slice none 0 0, .slice none 0 0, .slice none 0 0, .slice none 0 0, .slice none 0 0, .slice none 0 0, .slice (some ⟨w.heap.size + 1 + 1 + 1, 0, none⟩) 1 1] 30) := ⟨_, rfl⟩
  obtain ⟨hb1, hE, hS, hi, hcells⟩ := known_trees w w1 hw1
  have H0 := Lib.hid (count_prog w1 none 0 0 (some ⟨w.heap.size + 1 + 1 + 1, 0, none⟩) 1 1 (fun _ => kS) (Nat.le_refl _) (by decide) hS (by rw [kS_runs]; exact ⟨by decide, by decide⟩))
  rw [kS_runs] at H0
  have D0 := Lib.hid (fun W (hb : Below w1.heap.size w1 W) => depth_prog kE W _ _ (by rw [kE_dep]; omega) (ExOk.below hb (Nat.le_refl _) _ _ _ hE))
  rw [kE_dep] at D0
  have D1 := Lib.hid (fun W (hb : Below w1.heap.size w1 W) => nest_prog 10 (by omega) 1 (fun _ => kS) (by rw [kS_nest]; omega) W (some ⟨w.heap.size + 1 + 1 + 1, 0, none⟩) 1 (Nat.le_refl _) (by decide) (hS.below hb (Nat.le_refl _)))
  rw [kS_nest] at D1
  have D2 := Lib.hid (fun W (hb : Below w1.heap.size w1 W) => small_prog W none 0 0 (fun _ => ⟨ByteArray.empty, false, .none⟩) (some ⟨w.heap.size + 1 + 1 + 1, 0, none⟩) 1 1 (fun _ => kS) (Nat.le_refl _) (by decide) (Nat.le_refl _) (by decide) (fun h => absurd h (by omega)) (hS.below hb (Nat.le_refl _)) kS_dep (by rw [kS_nest]; omega))
  rw [kS_small] at D2
  have D3 := Lib.hid (fun W (hb : Below w1.heap.size w1 W) => clone_prog W (some ⟨w.heap.size + 1 + 1 + 1, 0, none⟩) 1 (fun _ => kS) (Nat.le_refl _) (by decide) (hS.below hb (Nat.le_refl _)) kS_flat kS_cl (fun b o e => by cases e; exact cell_below hb (Nat.le_refl _) hi))
  have H4 := Lib.hid (fun W b o c (hb : Below w1.heap.size w1 W) {F : Nat → Prop} (hbody : BodyB F W (.slice (some ⟨b, o, none⟩) 1 c) kS) => show Calls Try.prog 10 #[modV none 0 0 (some ⟨w.heap.size + 1 + 1 + 1, 0, none⟩) 1 1, modV none 0 0 (some ⟨b, o, none⟩) 1 c] W fun en w' => en = .returned (.bool true) ∧ Below W.heap.size W w' from by
    obtain ⟨a', cap', e, p1, p2, hs⟩ := hbody.sts (f := fun _ => kS) kS_flat (by intro h; cases h)
    obtain ⟨e1, e2⟩ := bSlice e
    subst e1 e2
    exact same_prog W _ _ 1 1 1 c (fun _ => kS) (fun _ => kS) (hS.below hb (Nat.le_refl _)) hs (Nat.le_refl _) (by decide) p1 p2 (fun _ j hj => ⟨rfl, kS_flat⟩))
  have D5 := Lib.hid (fun W (hb : Below w1.heap.size w1 W) => show Calls Try.prog 10 #[modV none 0 0 (some ⟨w.heap.size + 1 + 1 + 1, 0, none⟩) 1 1, modV none 0 0 none 0 0] W fun en w' => en = .returned (.bool false) ∧ Below W.heap.size W w' from
    same_prog W _ none 1 1 0 0 (fun _ => kS) (fun _ => kS) (hS.below hb (Nat.le_refl _)) (fun h => absurd h (by omega)) (Nat.le_refl _) (by decide) (Nat.le_refl _) (by decide) (fun h => by omega))
  have D6 := Lib.hid (fun W (hb : Below w1.heap.size w1 W) => sameExpr_self kE W _ _ _ _ (ExOk.below hb (Nat.le_refl _) _ _ _ hE) (ExOk.below hb (Nat.le_refl _) _ _ _ hE))
  have D7 := Lib.hid (fun W (hb : Below w1.heap.size w1 W) => show Calls Try.prog 13 #[.slice (some ⟨w.heap.size + 1 + 1 + 1, 0, none⟩) 1 1, .slice (some ⟨w.heap.size + 1 + 1 + 1, 0, none⟩) 1 1] W fun en w' => en = .returned (.bool true) ∧ Below W.heap.size W w' from
    sameBody_any W _ _ 1 1 1 1 (fun _ => kS) (fun _ => kS) (hS.below hb (Nat.le_refl _)) (hS.below hb (Nat.le_refl _)) (Nat.le_refl _) (by decide) (Nat.le_refl _) (by decide) (fun _ j hj => ⟨rfl, kS_flat⟩))
  have HKS := Lib.hid (show ∀ W, Below w1.heap.size w1 W → (W.cell? ⟨w.heap.size + 1, 0, none⟩ = some (.int .i64 9) ∧ W.cell? ⟨w.heap.size + 1, 1, none⟩ = some (.int .i64 0) ∧ W.cell? ⟨w.heap.size + 1, 2, none⟩ = some (.int .i64 0) ∧ W.cell? ⟨w.heap.size + 1, 3, none⟩ = some (.string { data := #[] }) ∧ W.cell? ⟨w.heap.size + 1, 4, none⟩ = some (.slice none 0 0) ∧ W.cell? ⟨w.heap.size + 1, 5, none⟩ = some (.int .i32 0) ∧ W.cell? ⟨w.heap.size + 1, 6, none⟩ = some (.string { data := #[] }) ∧ W.cell? ⟨w.heap.size + 1, 7, none⟩ = some (.slice (some ⟨w.heap.size, 0, none⟩) 2 2)) ∧ (W.cell? ⟨w.heap.size + 1 + 1 + 1 + 1, 0, none⟩ = some (.string { data := #[77] }) ∧ W.cell? ⟨w.heap.size + 1 + 1 + 1 + 1, 1, none⟩ = some (.slice none 0 0) ∧ W.cell? ⟨w.heap.size + 1 + 1 + 1 + 1, 2, none⟩ = some (.slice none 0 0) ∧ W.cell? ⟨w.heap.size + 1 + 1 + 1 + 1, 3, none⟩ = some (.slice none 0 0) ∧ W.cell? ⟨w.heap.size + 1 + 1 + 1 + 1, 4, none⟩ = some (.slice none 0 0) ∧ W.cell? ⟨w.heap.size + 1 + 1 + 1 + 1, 5, none⟩ = some (.slice none 0 0) ∧ W.cell? ⟨w.heap.size + 1 + 1 + 1 + 1, 6, none⟩ = some (.slice none 0 0) ∧ W.cell? ⟨w.heap.size + 1 + 1 + 1 + 1, 7, none⟩ = some (.slice (some ⟨w.heap.size + 1 + 1 + 1, 0, none⟩) 1 1)) from fun W hbw => by
    obtain ⟨⟨a0, a1, a2, a3, a4, a5, a6, a7⟩, ⟨b0, b1, b2, b3, b4, b5, b6, b7⟩⟩ := hcells
    exact ⟨⟨cell_below hbw (Nat.le_refl _) a0, cell_below hbw (Nat.le_refl _) a1, cell_below hbw (Nat.le_refl _) a2, cell_below hbw (Nat.le_refl _) a3, cell_below hbw (Nat.le_refl _) a4, cell_below hbw (Nat.le_refl _) a5, cell_below hbw (Nat.le_refl _) a6, cell_below hbw (Nat.le_refl _) a7⟩, ⟨cell_below hbw (Nat.le_refl _) b0, cell_below hbw (Nat.le_refl _) b1, cell_below hbw (Nat.le_refl _) b2, cell_below hbw (Nat.le_refl _) b3, cell_below hbw (Nat.le_refl _) b4, cell_below hbw (Nat.le_refl _) b5, cell_below hbw (Nat.le_refl _) b6, cell_below hbw (Nat.le_refl _) b7⟩⟩)
  have HW1 := Lib.hid hw1
  have HB1 := Lib.hid hb1
  unfold modV at H0 D2 D3 D5
  unfold exV at D0 D6
  clear hw1 hb1 hE hS hi hcells
  go_enter Try.func4, Try.ntmps4
  go_wp2_with fail
  rw [← HW1.out]
  refine H0.out.mono ?_
  rintro en w2 ⟨rfl, hb2⟩
  obtain ⟨wd, hwd⟩ : ∃ wd : World, wd = w2.drew := ⟨_, rfl⟩
  have HY0 := Lib.hid (show Below w1.heap.size w1 wd from by rw [hwd]; exact Below.drew hb2)
  have HS := Lib.hid (HKS.out wd HY0.out)
  have HWD := Lib.hid hwd
  clear hb2 hwd
  go_wp2_with fail
  refine wp_region_till 45 (fun W : World => (W.cell? ⟨w.heap.size + 1, 0, none⟩ = some (.int .i64 9) ∧ W.cell? ⟨w.heap.size + 1, 1, none⟩ = some (.int .i64 0) ∧ W.cell? ⟨w.heap.size + 1, 2, none⟩ = some (.int .i64 0) ∧ W.cell? ⟨w.heap.size + 1, 3, none⟩ = some (.string { data := #[] }) ∧ W.cell? ⟨w.heap.size + 1, 4, none⟩ = some (.slice none 0 0) ∧ W.cell? ⟨w.heap.size + 1, 5, none⟩ = some (.int .i32 0) ∧ W.cell? ⟨w.heap.size + 1, 6, none⟩ = some (.string { data := #[] }) ∧ W.cell? ⟨w.heap.size + 1, 7, none⟩ = some (.slice (some ⟨w.heap.size, 0, none⟩) 2 2)) ∧ (W.cell? ⟨w.heap.size + 1 + 1 + 1 + 1, 0, none⟩ = some (.string { data := #[77] }) ∧ W.cell? ⟨w.heap.size + 1 + 1 + 1 + 1, 1, none⟩ = some (.slice none 0 0) ∧ W.cell? ⟨w.heap.size + 1 + 1 + 1 + 1, 2, none⟩ = some (.slice none 0 0) ∧ W.cell? ⟨w.heap.size + 1 + 1 + 1 + 1, 3, none⟩ = some (.slice none 0 0) ∧ W.cell? ⟨w.heap.size + 1 + 1 + 1 + 1, 4, none⟩ = some (.slice none 0 0) ∧ W.cell? ⟨w.heap.size + 1 + 1 + 1 + 1, 5, none⟩ = some (.slice none 0 0) ∧ W.cell? ⟨w.heap.size + 1 + 1 + 1 + 1, 6, none⟩ = some (.slice none 0 0) ∧ W.cell? ⟨w.heap.size + 1 + 1 + 1 + 1, 7, none⟩ = some (.slice (some ⟨w.heap.size + 1 + 1 + 1, 0, none⟩) 1 1))) (by as_aux_lemma => kernel_rfl) ?_
  rw [← HWD.out]
  (refine wpAnyT_take (i := 0) (oi := ?_) (v := ?_) ?_ (by as_aux_lemma => kernel_rfl) (by as_aux_lemma => kernel_rfl) (by as_aux_lemma => kernel_rfl) (by as_aux_lemma => kernel_rfl) ?_ (Or.inl ⟨?_, ?_⟩) HS.out ?_; rotate_left 2; (focus (simp only [List.getElem?_toArray, List.getElem?_cons_succ, List.getElem?_cons_zero] <;> rfl)); (focus exact (fun _ _ _ h => h)); (focus rfl); (focus (intro w hSw; (try dsimp only at hSw); go_simp; try (with_reducible rfl))))
  (try simp only [Act.put, List.setIfInBounds_toArray, List.set_cons_zero, List.set_cons_succ])
  (refine wpAnyT_one (i := 1) (oi := ?_) ?_ (by as_aux_lemma => kernel_rfl) (fun K hK => ?_); rotate_left; (focus (simp only [List.getElem?_toArray, List.getElem?_cons_succ, List.getElem?_cons_zero] <;> rfl)))
  go_simp
  refine (D0.out _ HY0.out).mono ?_
  rintro en x1 ⟨rfl, hb⟩
  have HY1 := Lib.hid (HY0.out.trans (hb.mono HY0.out.size))
  clear hb
  have HS := Lib.hid (HKS.out x1 HY1.out)
  refine hK.out _ _ HS.out ?_
  clear hK K
  (try simp only [Act.put, List.setIfInBounds_toArray, List.set_cons_zero, List.set_cons_succ])
  (refine wpAnyT_take (i := 2) (oi := ?_) (v := ?_) ?_ (by as_aux_lemma => kernel_rfl) (by as_aux_lemma => kernel_rfl) (by as_aux_lemma => kernel_rfl) (by as_aux_lemma => kernel_rfl) ?_ (Or.inl ⟨?_, ?_⟩) HS.out ?_; rotate_left 2; (focus (simp only [List.getElem?_toArray, List.getElem?_cons_succ, List.getElem?_cons_zero] <;> rfl)); (focus exact (fun _ _ _ h => h)); (focus rfl); (focus (intro w hSw; (try dsimp only at hSw); go_simp; try (with_reducible rfl))))
  (try simp only [Act.put, List.setIfInBounds_toArray, List.set_cons_zero, List.set_cons_succ])
  (refine wpAnyT_take (i := 3) (oi := ?_) (v := ?_) ?_ (by as_aux_lemma => kernel_rfl) (by as_aux_lemma => kernel_rfl) (by as_aux_lemma => kernel_rfl) (by as_aux_lemma => kernel_rfl) ?_ (Or.inl ⟨?_, ?_⟩) HS.out ?_; rotate_left 2; (focus (simp only [List.getElem?_toArray, List.getElem?_cons_succ, List.getElem?_cons_zero] <;> rfl)); (focus exact (fun _ _ _ h => h)); (focus rfl); (focus (intro w hSw; (try dsimp only at hSw); go_simp; try (with_reducible rfl))))
  (try simp only [Act.put, List.setIfInBounds_toArray, List.set_cons_zero, List.set_cons_succ])
  (refine wpAnyT_take (i := 4) (oi := ?_) (v := ?_) ?_ (by as_aux_lemma => kernel_rfl) (by as_aux_lemma => kernel_rfl) (by as_aux_lemma => kernel_rfl) (by as_aux_lemma => kernel_rfl) ?_ (Or.inl ⟨?_, ?_⟩) HS.out ?_; rotate_left 2; (focus (simp only [List.getElem?_toArray, List.getElem?_cons_succ, List.getElem?_cons_zero] <;> rfl)); (focus exact (fun _ _ _ h => h)); (focus rfl); (focus (intro w hSw; (try dsimp only at hSw); go_simp; try (with_reducible rfl))))
  (try simp only [Act.put, List.setIfInBounds_toArray, List.set_cons_zero, List.set_cons_succ])
  (refine wpAnyT_take (i := 5) (oi := ?_) (v := ?_) ?_ (by as_aux_lemma => kernel_rfl) (by as_aux_lemma => kernel_rfl) (by as_aux_lemma => kernel_rfl) (by as_aux_lemma => kernel_rfl) ?_ (Or.inl ⟨?_, ?_⟩) HS.out ?_; rotate_left 2; (focus (simp only [List.getElem?_toArray, List.getElem?_cons_succ, List.getElem?_cons_zero] <;> rfl)); (focus exact (fun _ _ _ h => h)); (focus rfl); (focus (intro w hSw; (try dsimp only at hSw); go_simp; try (with_reducible rfl))))
  (try simp only [Act.put, List.setIfInBounds_toArray, List.set_cons_zero, List.set_cons_succ])
  (refine wpAnyT_take (i := 6) (oi := ?_) (v := ?_) ?_ (by as_aux_lemma => kernel_rfl) (by as_aux_lemma => kernel_rfl) (by as_aux_lemma => kernel_rfl) (by as_aux_lemma => kernel_rfl) ?_ (Or.inl ⟨?_, ?_⟩) HS.out ?_; rotate_left 2; (focus (simp only [List.getElem?_toArray, List.getElem?_cons_succ, List.getElem?_cons_zero] <;> rfl)); (focus exact (fun _ _ _ h => h)); (focus rfl); (focus (intro w hSw; (try dsimp only at hSw); go_simp; try (with_reducible rfl))))
  (try simp only [Act.put, List.setIfInBounds_toArray, List.set_cons_zero, List.set_cons_succ])
  (refine wpAnyT_take (i := 7) (oi := ?_) (v := ?_) ?_ (by as_aux_lemma => kernel_rfl) (by as_aux_lemma => kernel_rfl) (by as_aux_lemma => kernel_rfl) (by as_aux_lemma => kernel_rfl) ?_ (Or.inl ⟨?_, ?_⟩) HS.out ?_; rotate_left 2; (focus (simp only [List.getElem?_toArray, List.getElem?_cons_succ, List.getElem?_cons_zero] <;> rfl)); (focus exact (fun _ _ _ h => h)); (focus rfl); (focus (intro w hSw; (try dsimp only at hSw); go_simp; try (with_reducible rfl))))
  (try simp only [Act.put, List.setIfInBounds_toArray, List.set_cons_zero, List.set_cons_succ])
  (refine wpAnyT_take (i := 8) (oi := ?_) (v := ?_) ?_ (by as_aux_lemma => kernel_rfl) (by as_aux_lemma => kernel_rfl) (by as_aux_lemma => kernel_rfl) (by as_aux_lemma => kernel_rfl) ?_ (Or.inl ⟨?_, ?_⟩) HS.out ?_; rotate_left 2; (focus (simp only [List.getElem?_toArray, List.getElem?_cons_succ, List.getElem?_cons_zero] <;> rfl)); (focus exact (fun _ _ _ h => h)); (focus rfl); (focus (intro w hSw; (try dsimp only at hSw); go_simp; try (with_reducible rfl))))
  (try simp only [Act.put, List.setIfInBounds_toArray, List.set_cons_zero, List.set_cons_succ])
  (refine wpAnyT_take (i := 9) (oi := ?_) (v := ?_) ?_ (by as_aux_lemma => kernel_rfl) (by as_aux_lemma => kernel_rfl) (by as_aux_lemma => kernel_rfl) (by as_aux_lemma => kernel_rfl) ?_ (Or.inl ⟨?_, ?_⟩) HS.out ?_; rotate_left 2; (focus (simp only [List.getElem?_toArray, List.getElem?_cons_succ, List.getElem?_cons_zero] <;> rfl)); (focus exact (fun _ _ _ h => h)); (focus rfl); (focus (intro w hSw; (try dsimp only at hSw); go_simp; try (with_reducible rfl))))
  (try simp only [Act.put, List.setIfInBounds_toArray, List.set_cons_zero, List.set_cons_succ])
  (refine wpAnyT_take (i := 10) (oi := ?_) (v := ?_) ?_ (by as_aux_lemma => kernel_rfl) (by as_aux_lemma => kernel_rfl) (by as_aux_lemma => kernel_rfl) (by as_aux_lemma => kernel_rfl) ?_ (Or.inl ⟨?_, ?_⟩) HS.out ?_; rotate_left 2; (focus (simp only [List.getElem?_toArray, List.getElem?_cons_succ, List.getElem?_cons_zero] <;> rfl)); (focus exact (fun _ _ _ h => h)); (focus rfl); (focus (intro w hSw; (try dsimp only at hSw); go_simp; try (with_reducible rfl))))
  (try simp only [Act.put, List.setIfInBounds_toArray, List.set_cons_zero, List.set_cons_succ])
  (refine wpAnyT_take (i := 11) (oi := ?_) (v := ?_) ?_ (by as_aux_lemma => kernel_rfl) (by as_aux_lemma => kernel_rfl) (by as_aux_lemma => kernel_rfl) (by as_aux_lemma => kernel_rfl) ?_ (Or.inl ⟨?_, ?_⟩) HS.out ?_; rotate_left 2; (focus (simp only [List.getElem?_toArray, List.getElem?_cons_succ, List.getElem?_cons_zero] <;> rfl)); (focus exact (fun _ _ _ h => h)); (focus rfl); (focus (intro w hSw; (try dsimp only at hSw); go_simp; try (with_reducible rfl))))
  (try simp only [Act.put, List.setIfInBounds_toArray, List.set_cons_zero, List.set_cons_succ])
  (refine wpAnyT_take (i := 12) (oi := ?_) (v := ?_) ?_ (by as_aux_lemma => kernel_rfl) (by as_aux_lemma => kernel_rfl) (by as_aux_lemma => kernel_rfl) (by as_aux_lemma => kernel_rfl) ?_ (Or.inl ⟨?_, ?_⟩) HS.out ?_; rotate_left 2; (focus (simp only [List.getElem?_toArray, List.getElem?_cons_succ, List.getElem?_cons_zero] <;> rfl)); (focus exact (fun _ _ _ h => h)); (focus rfl); (focus (intro w hSw; (try dsimp only at hSw); go_simp; try (with_reducible rfl))))
  (try simp only [Act.put, List.setIfInBounds_toArray, List.set_cons_zero, List.set_cons_succ])
  (refine wpAnyT_take (i := 13) (oi := ?_) (v := ?_) ?_ (by as_aux_lemma => kernel_rfl) (by as_aux_lemma => kernel_rfl) (by as_aux_lemma => kernel_rfl) (by as_aux_lemma => kernel_rfl) ?_ (Or.inl ⟨?_, ?_⟩) HS.out ?_; rotate_left 2; (focus (simp only [List.getElem?_toArray, List.getElem?_cons_succ, List.getElem?_cons_zero] <;> rfl)); (focus exact (fun _ _ _ h => h)); (focus rfl); (focus (intro w hSw; (try dsimp only at hSw); go_simp; try (with_reducible rfl))))
  (try simp only [Act.put, List.setIfInBounds_toArray, List.set_cons_zero, List.set_cons_succ])
  (refine wpAnyT_one (i := 14) (oi := ?_) ?_ (by as_aux_lemma => kernel_rfl) (fun K hK => ?_); rotate_left; (focus (simp only [List.getElem?_toArray, List.getElem?_cons_succ, List.getElem?_cons_zero] <;> rfl)))
  go_simp
  refine (D1.out _ HY1.out).mono ?_
  rintro en x2 ⟨rfl, hb⟩
  have HY2 := Lib.hid (HY1.out.trans (hb.mono HY1.out.size))
  clear hb
  have HS := Lib.hid (HKS.out x2 HY2.out)
  refine hK.out _ _ HS.out ?_
  clear hK K
  (try simp only [Act.put, List.setIfInBounds_toArray, List.set_cons_zero, List.set_cons_succ])
  (refine wpAnyT_take (i := 15) (oi := ?_) (v := ?_) ?_ (by as_aux_lemma => kernel_rfl) (by as_aux_lemma => kernel_rfl) (by as_aux_lemma => kernel_rfl) (by as_aux_lemma => kernel_rfl) ?_ (Or.inl ⟨?_, ?_⟩) HS.out ?_; rotate_left 2; (focus (simp only [List.getElem?_toArray, List.getElem?_cons_succ, List.getElem?_cons_zero] <;> rfl)); (focus exact (fun _ _ _ h => h)); (focus rfl); (focus (intro w hSw; (try dsimp only at hSw); go_simp; try (with_reducible rfl))))
  (try simp only [Act.put, List.setIfInBounds_toArray, List.set_cons_zero, List.set_cons_succ])
  (refine wpAnyT_take (i := 16) (oi := ?_) (v := ?_) ?_ (by as_aux_lemma => kernel_rfl) (by as_aux_lemma => kernel_rfl) (by as_aux_lemma => kernel_rfl) (by as_aux_lemma => kernel_rfl) ?_ (Or.inl ⟨?_, ?_⟩) HS.out ?_; rotate_left 2; (focus (simp only [List.getElem?_toArray, List.getElem?_cons_succ, List.getElem?_cons_zero] <;> rfl)); (focus exact (fun _ _ _ h => h)); (focus rfl); (focus (intro w hSw; (try dsimp only at hSw); go_simp; try (with_reducible rfl))))
  (try simp only [Act.put, List.setIfInBounds_toArray, List.set_cons_zero, List.set_cons_succ])
  (refine wpAnyT_take (i := 17) (oi := ?_) (v := ?_) ?_ (by as_aux_lemma => kernel_rfl) (by as_aux_lemma => kernel_rfl) (by as_aux_lemma => kernel_rfl) (by as_aux_lemma => kernel_rfl) ?_ (Or.inl ⟨?_, ?_⟩) HS.out ?_; rotate_left 2; (focus (simp only [List.getElem?_toArray, List.getElem?_cons_succ, List.getElem?_cons_zero] <;> rfl)); (focus exact (fun _ _ _ h => h)); (focus rfl); (focus (intro w hSw; (try dsimp only at hSw); go_simp; try (with_reducible rfl))))
  (try simp only [Act.put, List.setIfInBounds_toArray, List.set_cons_zero, List.set_cons_succ])
  (refine wpAnyT_take (i := 18) (oi := ?_) (v := ?_) ?_ (by as_aux_lemma => kernel_rfl) (by as_aux_lemma => kernel_rfl) (by as_aux_lemma => kernel_rfl) (by as_aux_lemma => kernel_rfl) ?_ (Or.inl ⟨?_, ?_⟩) HS.out ?_; rotate_left 2; (focus (simp only [List.getElem?_toArray, List.getElem?_cons_succ, List.getElem?_cons_zero] <;> rfl)); (focus exact (fun _ _ _ h => h)); (focus rfl); (focus (intro w hSw; (try dsimp only at hSw); go_simp; try (with_reducible rfl))))
  (try simp only [Act.put, List.setIfInBounds_toArray, List.set_cons_zero, List.set_cons_succ])
  (refine wpAnyT_one (i := 19) (oi := ?_) ?_ (by as_aux_lemma => kernel_rfl) (fun K hK => ?_); rotate_left; (focus (simp only [List.getElem?_toArray, List.getElem?_cons_succ, List.getElem?_cons_zero] <;> rfl)))
  go_simp
  refine (D2.out _ HY2.out).mono ?_
  rintro en x3 ⟨rfl, hb⟩
  have HY3 := Lib.hid (HY2.out.trans (hb.mono HY2.out.size))
  clear hb
  have HS := Lib.hid (HKS.out x3 HY3.out)
  refine hK.out _ _ HS.out ?_
  clear hK K
  (try simp only [Act.put, List.setIfInBounds_toArray, List.set_cons_zero, List.set_cons_succ])
  (refine wpAnyT_take (i := 20) (oi := ?_) (v := ?_) ?_ (by as_aux_lemma => kernel_rfl) (by as_aux_lemma => kernel_rfl) (by as_aux_lemma => kernel_rfl) (by as_aux_lemma => kernel_rfl) ?_ (Or.inl ⟨?_, ?_⟩) HS.out ?_; rotate_left 2; (focus (simp only [List.getElem?_toArray, List.getElem?_cons_succ, List.getElem?_cons_zero] <;> rfl)); (focus exact (fun _ _ _ h => h)); (focus rfl); (focus (intro w hSw; (try dsimp only at hSw); go_simp; try (with_reducible rfl))))
  (try simp only [Act.put, List.setIfInBounds_toArray, List.set_cons_zero, List.set_cons_succ])
  (refine wpAnyT_take (i := 21) (oi := ?_) (v := ?_) ?_ (by as_aux_lemma => kernel_rfl) (by as_aux_lemma => kernel_rfl) (by as_aux_lemma => kernel_rfl) (by as_aux_lemma => kernel_rfl) ?_ (Or.inl ⟨?_, ?_⟩) HS.out ?_; rotate_left 2; (focus (simp only [List.getElem?_toArray, List.getElem?_cons_succ, List.getElem?_cons_zero] <;> rfl)); (focus exact (fun _ _ _ h => h)); (focus rfl); (focus (intro w hSw; (try dsimp only at hSw); go_simp; try (with_reducible rfl))))
  (try simp only [Act.put, List.setIfInBounds_toArray, List.set_cons_zero, List.set_cons_succ])
  (refine wpAnyT_take (i := 22) (oi := ?_) (v := ?_) ?_ (by as_aux_lemma => kernel_rfl) (by as_aux_lemma => kernel_rfl) (by as_aux_lemma => kernel_rfl) (by as_aux_lemma => kernel_rfl) ?_ (Or.inl ⟨?_, ?_⟩) HS.out ?_; rotate_left 2; (focus (simp only [List.getElem?_toArray, List.getElem?_cons_succ, List.getElem?_cons_zero] <;> rfl)); (focus exact (fun _ _ _ h => h)); (focus rfl); (focus (intro w hSw; (try dsimp only at hSw); go_simp; try (with_reducible rfl))))
  (try simp only [Act.put, List.setIfInBounds_toArray, List.set_cons_zero, List.set_cons_succ])
  (refine wpAnyT_take (i := 23) (oi := ?_) (v := ?_) ?_ (by as_aux_lemma => kernel_rfl) (by as_aux_lemma => kernel_rfl) (by as_aux_lemma => kernel_rfl) (by as_aux_lemma => kernel_rfl) ?_ (Or.inl ⟨?_, ?_⟩) HS.out ?_; rotate_left 2; (focus (simp only [List.getElem?_toArray, List.getElem?_cons_succ, List.getElem?_cons_zero] <;> rfl)); (focus exact (fun _ _ _ h => h)); (focus rfl); (focus (intro w hSw; (try dsimp only at hSw); go_simp; try (with_reducible rfl))))
  (try simp only [Act.put, List.setIfInBounds_toArray, List.set_cons_zero, List.set_cons_succ])
  (refine wpAnyT_one (i := 24) (oi := ?_) ?_ (by as_aux_lemma => kernel_rfl) (fun K hK => ?_); rotate_left; (focus (simp only [List.getElem?_toArray, List.getElem?_cons_succ, List.getElem?_cons_zero] <;> rfl)))
  go_simp
  refine (D3.out _ HY3.out).mono ?_
  rintro en x4 ⟨⟨b4, o4, c4, rfl, hbody⟩, hb⟩
  have HY4 := Lib.hid (HY3.out.trans (hb.mono HY3.out.size))
  have D4 := Lib.hid (H4.out x4 b4 o4 c4 HY4.out hbody)
  clear hb hbody
  unfold modV at D4
  have HS := Lib.hid (HKS.out x4 HY4.out)
  refine hK.out _ _ HS.out ?_
  clear hK K
  (try simp only [Act.put, List.setIfInBounds_toArray, List.set_cons_zero, List.set_cons_succ])
  (refine wpAnyT_one (i := 25) (oi := ?_) ?_ (by as_aux_lemma => kernel_rfl) (fun K hK => ?_); rotate_left; (focus (simp only [List.getElem?_toArray, List.getElem?_cons_succ, List.getElem?_cons_zero] <;> rfl)))
  go_simp
  refine D4.out.mono ?_
  rintro en x5 ⟨rfl, hb⟩
  have HY5 := Lib.hid (HY4.out.trans (hb.mono HY4.out.size))
  clear hb
  have HS := Lib.hid (HKS.out x5 HY5.out)
  refine hK.out _ _ HS.out ?_
  clear hK K
  (try simp only [Act.put, List.setIfInBounds_toArray, List.set_cons_zero, List.set_cons_succ])
  (refine wpAnyT_take (i := 26) (oi := ?_) (v := ?_) ?_ (by as_aux_lemma => kernel_rfl) (by as_aux_lemma => kernel_rfl) (by as_aux_lemma => kernel_rfl) (by as_aux_lemma => kernel_rfl) ?_ (Or.inl ⟨?_, ?_⟩) HS.out ?_; rotate_left 2; (focus (simp only [List.getElem?_toArray, List.getElem?_cons_succ, List.getElem?_cons_zero] <;> rfl)); (focus exact (fun _ _ _ h => h)); (focus rfl); (focus (intro w hSw; (try dsimp only at hSw); go_simp; try (with_reducible rfl))))
  (try simp only [Act.put, List.setIfInBounds_toArray, List.set_cons_zero, List.set_cons_succ])
  (refine wpAnyT_take (i := 27) (oi := ?_) (v := ?_) ?_ (by as_aux_lemma => kernel_rfl) (by as_aux_lemma => kernel_rfl) (by as_aux_lemma => kernel_rfl) (by as_aux_lemma => kernel_rfl) ?_ (Or.inl ⟨?_, ?_⟩) HS.out ?_; rotate_left 2; (focus (simp only [List.getElem?_toArray, List.getElem?_cons_succ, List.getElem?_cons_zero] <;> rfl)); (focus exact (fun _ _ _ h => h)); (focus rfl); (focus (intro w hSw; (try dsimp only at hSw); go_simp; try (with_reducible rfl))))
  (try simp only [Act.put, List.setIfInBounds_toArray, List.set_cons_zero, List.set_cons_succ])
  (refine wpAnyT_take (i := 28) (oi := ?_) (v := ?_) ?_ (by as_aux_lemma => kernel_rfl) (by as_aux_lemma => kernel_rfl) (by as_aux_lemma => kernel_rfl) (by as_aux_lemma => kernel_rfl) ?_ (Or.inl ⟨?_, ?_⟩) HS.out ?_; rotate_left 2; (focus (simp only [List.getElem?_toArray, List.getElem?_cons_succ, List.getElem?_cons_zero] <;> rfl)); (focus exact (fun _ _ _ h => h)); (focus rfl); (focus (intro w hSw; (try dsimp only at hSw); go_simp; try (with_reducible rfl))))
  (try simp only [Act.put, List.setIfInBounds_toArray, List.set_cons_zero, List.set_cons_succ])
  (refine wpAnyT_take (i := 29) (oi := ?_) (v := ?_) ?_ (by as_aux_lemma => kernel_rfl) (by as_aux_lemma => kernel_rfl) (by as_aux_lemma => kernel_rfl) (by as_aux_lemma => kernel_rfl) ?_ (Or.inl ⟨?_, ?_⟩) HS.out ?_; rotate_left 2; (focus (simp only [List.getElem?_toArray, List.getElem?_cons_succ, List.getElem?_cons_zero] <;> rfl)); (focus exact (fun _ _ _ h => h)); (focus rfl); (focus (intro w hSw; (try dsimp only at hSw); go_simp; try (with_reducible rfl))))
  (try simp only [Act.put, List.setIfInBounds_toArray, List.set_cons_zero, List.set_cons_succ])
  (refine wpAnyT_one (i := 30) (oi := ?_) ?_ (by as_aux_lemma => kernel_rfl) (fun K hK => ?_); rotate_left; (focus (simp only [List.getElem?_toArray, List.getElem?_cons_succ, List.getElem?_cons_zero] <;> rfl)))
  go_simp
  refine (D5.out _ HY5.out).mono ?_
  rintro en x6 ⟨rfl, hb⟩
  have HY6 := Lib.hid (HY5.out.trans (hb.mono HY5.out.size))
  clear hb
  have HS := Lib.hid (HKS.out x6 HY6.out)
  refine hK.out _ _ HS.out ?_
  clear hK K
  (try simp only [Act.put, List.setIfInBounds_toArray, List.set_cons_zero, List.set_cons_succ])
  (refine wpAnyT_take (i := 31) (oi := ?_) (v := ?_) ?_ (by as_aux_lemma => kernel_rfl) (by as_aux_lemma => kernel_rfl) (by as_aux_lemma => kernel_rfl) (by as_aux_lemma => kernel_rfl) ?_ (Or.inl ⟨?_, ?_⟩) HS.out ?_; rotate_left 2; (focus (simp only [List.getElem?_toArray, List.getElem?_cons_succ, List.getElem?_cons_zero] <;> rfl)); (focus exact (fun _ _ _ h => h)); (focus rfl); (focus (intro w hSw; (try dsimp only at hSw); go_simp; try (with_reducible rfl))))
  (try simp only [Act.put, List.setIfInBounds_toArray, List.set_cons_zero, List.set_cons_succ])
  (refine wpAnyT_take (i := 32) (oi := ?_) (v := ?_) ?_ (by as_aux_lemma => kernel_rfl) (by as_aux_lemma => kernel_rfl) (by as_aux_lemma => kernel_rfl) (by as_aux_lemma => kernel_rfl) ?_ (Or.inl ⟨?_, ?_⟩) HS.out ?_; rotate_left 2; (focus (simp only [List.getElem?_toArray, List.getElem?_cons_succ, List.getElem?_cons_zero] <;> rfl)); (focus exact (fun _ _ _ h => h)); (focus rfl); (focus (intro w hSw; (try dsimp only at hSw); go_simp; try (with_reducible rfl))))
  (try simp only [Act.put, List.setIfInBounds_toArray, List.set_cons_zero, List.set_cons_succ])
  (refine wpAnyT_take (i := 33) (oi := ?_) (v := ?_) ?_ (by as_aux_lemma => kernel_rfl) (by as_aux_lemma => kernel_rfl) (by as_aux_lemma => kernel_rfl) (by as_aux_lemma => kernel_rfl) ?_ (Or.inl ⟨?_, ?_⟩) HS.out ?_; rotate_left 2; (focus (simp only [List.getElem?_toArray, List.getElem?_cons_succ, List.getElem?_cons_zero] <;> rfl)); (focus exact (fun _ _ _ h => h)); (focus rfl); (focus (intro w hSw; (try dsimp only at hSw); go_simp; try (with_reducible rfl))))
  (try simp only [Act.put, List.setIfInBounds_toArray, List.set_cons_zero, List.set_cons_succ])
  (refine wpAnyT_take (i := 34) (oi := ?_) (v := ?_) ?_ (by as_aux_lemma => kernel_rfl) (by as_aux_lemma => kernel_rfl) (by as_aux_lemma => kernel_rfl) (by as_aux_lemma => kernel_rfl) ?_ (Or.inl ⟨?_, ?_⟩) HS.out ?_; rotate_left 2; (focus (simp only [List.getElem?_toArray, List.getElem?_cons_succ, List.getElem?_cons_zero] <;> rfl)); (focus exact (fun _ _ _ h => h)); (focus rfl); (focus (intro w hSw; (try dsimp only at hSw); go_simp; try (with_reducible rfl))))
  (try simp only [Act.put, List.setIfInBounds_toArray, List.set_cons_zero, List.set_cons_succ])
  (refine wpAnyT_take (i := 35) (oi := ?_) (v := ?_) ?_ (by as_aux_lemma => kernel_rfl) (by as_aux_lemma => kernel_rfl) (by as_aux_lemma => kernel_rfl) (by as_aux_lemma => kernel_rfl) ?_ (Or.inl ⟨?_, ?_⟩) HS.out ?_; rotate_left 2; (focus (simp only [List.getElem?_toArray, List.getElem?_cons_succ, List.getElem?_cons_zero] <;> rfl)); (focus exact (fun _ _ _ h => h)); (focus rfl); (focus (intro w hSw; (try dsimp only at hSw); go_simp; try (with_reducible rfl))))
  (try simp only [Act.put, List.setIfInBounds_toArray, List.set_cons_zero, List.set_cons_succ])
  (refine wpAnyT_one (i := 36) (oi := ?_) ?_ (by as_aux_lemma => kernel_rfl) (fun K hK => ?_); rotate_left; (focus (simp only [List.getElem?_toArray, List.getElem?_cons_succ, List.getElem?_cons_zero] <;> rfl)))
  go_simp
  refine (D6.out _ HY6.out).mono ?_
  rintro en x7 ⟨rfl, hb⟩
  have HY7 := Lib.hid (HY6.out.trans (hb.mono HY6.out.size))
  clear hb
  have HS := Lib.hid (HKS.out x7 HY7.out)
  refine hK.out _ _ HS.out ?_
  clear hK K
  (try simp only [Act.put, List.setIfInBounds_toArray, List.set_cons_zero, List.set_cons_succ])
  (refine wpAnyT_take (i := 37) (oi := ?_) (v := ?_) ?_ (by as_aux_lemma => kernel_rfl) (by as_aux_lemma => kernel_rfl) (by as_aux_lemma => kernel_rfl) (by as_aux_lemma => kernel_rfl) ?_ (Or.inl ⟨?_, ?_⟩) HS.out ?_; rotate_left 2; (focus (simp only [List.getElem?_toArray, List.getElem?_cons_succ, List.getElem?_cons_zero] <;> rfl)); (focus exact (fun _ _ _ h => h)); (focus rfl); (focus (intro w hSw; (try dsimp only at hSw); go_simp; try (with_reducible rfl))))
  (try simp only [Act.put, List.setIfInBounds_toArray, List.set_cons_zero, List.set_cons_succ])
  (refine wpAnyT_take (i := 38) (oi := ?_) (v := ?_) ?_ (by as_aux_lemma => kernel_rfl) (by as_aux_lemma => kernel_rfl) (by as_aux_lemma => kernel_rfl) (by as_aux_lemma => kernel_rfl) ?_ (Or.inl ⟨?_, ?_⟩) HS.out ?_; rotate_left 2; (focus (simp only [List.getElem?_toArray, List.getElem?_cons_succ, List.getElem?_cons_zero] <;> rfl)); (focus exact (fun _ _ _ h => h)); (focus rfl); (focus (intro w hSw; (try dsimp only at hSw); go_simp; try (with_reducible rfl))))
  (try simp only [Act.put, List.setIfInBounds_toArray, List.set_cons_zero, List.set_cons_succ])
  (refine wpAnyT_take (i := 39) (oi := ?_) (v := ?_) ?_ (by as_aux_lemma => kernel_rfl) (by as_aux_lemma => kernel_rfl) (by as_aux_lemma => kernel_rfl) (by as_aux_lemma => kernel_rfl) ?_ (Or.inl ⟨?_, ?_⟩) HS.out ?_; rotate_left 2; (focus (simp only [List.getElem?_toArray, List.getElem?_cons_succ, List.getElem?_cons_zero] <;> rfl)); (focus exact (fun _ _ _ h => h)); (focus rfl); (focus (intro w hSw; (try dsimp only at hSw); go_simp; try (with_reducible rfl))))
  (try simp only [Act.put, List.setIfInBounds_toArray, List.set_cons_zero, List.set_cons_succ])
  (refine wpAnyT_take (i := 40) (oi := ?_) (v := ?_) ?_ (by as_aux_lemma => kernel_rfl) (by as_aux_lemma => kernel_rfl) (by as_aux_lemma => kernel_rfl) (by as_aux_lemma => kernel_rfl) ?_ (Or.inl ⟨?_, ?_⟩) HS.out ?_; rotate_left 2; (focus (simp only [List.getElem?_toArray, List.getElem?_cons_succ, List.getElem?_cons_zero] <;> rfl)); (focus exact (fun _ _ _ h => h)); (focus rfl); (focus (intro w hSw; (try dsimp only at hSw); go_simp; try (with_reducible rfl))))
  (try simp only [Act.put, List.setIfInBounds_toArray, List.set_cons_zero, List.set_cons_succ])
  (refine wpAnyT_take (i := 41) (oi := ?_) (v := ?_) ?_ (by as_aux_lemma => kernel_rfl) (by as_aux_lemma => kernel_rfl) (by as_aux_lemma => kernel_rfl) (by as_aux_lemma => kernel_rfl) ?_ (Or.inl ⟨?_, ?_⟩) HS.out ?_; rotate_left 2; (focus (simp only [List.getElem?_toArray, List.getElem?_cons_succ, List.getElem?_cons_zero] <;> rfl)); (focus exact (fun _ _ _ h => h)); (focus rfl); (focus (intro w hSw; (try dsimp only at hSw); go_simp; try (with_reducible rfl))))
  (try simp only [Act.put, List.setIfInBounds_toArray, List.set_cons_zero, List.set_cons_succ])
  (refine wpAnyT_take (i := 42) (oi := ?_) (v := ?_) ?_ (by as_aux_lemma => kernel_rfl) (by as_aux_lemma => kernel_rfl) (by as_aux_lemma => kernel_rfl) (by as_aux_lemma => kernel_rfl) ?_ (Or.inl ⟨?_, ?_⟩) HS.out ?_; rotate_left 2; (focus (simp only [List.getElem?_toArray, List.getElem?_cons_succ, List.getElem?_cons_zero] <;> rfl)); (focus exact (fun _ _ _ h => h)); (focus rfl); (focus (intro w hSw; (try dsimp only at hSw); go_simp; try (with_reducible rfl))))
  (try simp only [Act.put, List.setIfInBounds_toArray, List.set_cons_zero, List.set_cons_succ])
  (refine wpAnyT_one (i := 43) (oi := ?_) ?_ (by as_aux_lemma => kernel_rfl) (fun K hK => ?_); rotate_left; (focus (simp only [List.getElem?_toArray, List.getElem?_cons_succ, List.getElem?_cons_zero] <;> rfl)))
  go_simp
  refine (D7.out _ HY7.out).mono ?_
  rintro en x8 ⟨rfl, hb⟩
  have HY8 := Lib.hid (HY7.out.trans (hb.mono HY7.out.size))
  clear hb
  have HS := Lib.hid (HKS.out x8 HY8.out)
  refine hK.out _ _ HS.out ?_
  clear hK K
  (try simp only [Act.put, List.setIfInBounds_toArray, List.set_cons_zero, List.set_cons_succ])
  (refine wpAnyT_take (i := 44) (oi := ?_) (v := ?_) ?_ (by as_aux_lemma => kernel_rfl) (by as_aux_lemma => kernel_rfl) (by as_aux_lemma => kernel_rfl) (by as_aux_lemma => kernel_rfl) ?_ (Or.inl ⟨?_, ?_⟩) HS.out ?_; rotate_left 2; (focus (simp only [List.getElem?_toArray, List.getElem?_cons_succ, List.getElem?_cons_zero] <;> rfl)); (focus exact (fun _ _ _ h => h)); (focus rfl); (focus (intro w hSw; (try dsimp only at hSw); go_simp; try (with_reducible rfl))))
  (try simp only [Act.put, List.setIfInBounds_toArray, List.set_cons_zero, List.set_cons_succ])
  (refine wpAnyT_late (i := 45) (oi := ?_) ?_ (by as_aux_lemma => kernel_rfl) (by as_aux_lemma => kernel_rfl) (fun K hK => ?_); rotate_left; (focus (simp only [List.getElem?_toArray, List.getElem?_cons_succ, List.getElem?_cons_zero] <;> rfl)))
  go_simp
  refine hK.out _ _ ?_
  clear hK K
  refine wpAnyT_done (by as_aux_lemma => kernel_rfl) ?_ _
  go_wp2_with fail
  go_ret
  exact ⟨rfl, HB1.out.trans (HY8.out.mono HB1.out.size)⟩
end Go.Proofs.Ytipcnkgojonmjaa
