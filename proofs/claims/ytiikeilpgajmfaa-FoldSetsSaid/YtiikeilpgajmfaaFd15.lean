/- Fold: told, of any expression; the chapter's example. (Printed by gen_fd15.py.) -/
import Derived.Test.YtiikeilpgajmfaaFd14
namespace Go.Proofs.Ytiikeilpgajmfaa
open Go.RowKit Go.Waf
set_option maxRecDepth 100000
set_option linter.unusedVariables false
set_option linter.unusedSimpArgs false

theorem foldOk {W : World} {e : Ex} {tv xv : Value} (h : ExOk W e tv xv) (o : Option (Int × Bool)) : ExOk W (fE e o) (fT tv o) (fT xv o) := by
  match o with
  | none => exact h
  | some (v, true) => exact ExOk.num W _ _
  | some (v, false) => exact ExOk.num W _ _
theorem told_any (w : World) (e : Ex) (tv xv : Value) (hok : ExOk w e tv xv) (hfit : Fit e) : Calls Try.prog 8 #[exV e tv xv] w fun en w' => en = .returned (.bool true) ∧ Below w.heap.size w w' := by
  have hk := fun W (hb : Below w.heap.size w W) => ExOk.below hb (Nat.le_refl _) e tv xv hok
  have hf := foldOk hok (fv e)
  obtain ⟨ta, tc, rfl, _, _⟩ := hok.ty.shape
  obtain ⟨xa, xc, rfl, _, _, _⟩ := hok.shape
  obtain ⟨ta2, tc2, ht2, _, _⟩ := hf.ty.shape
  obtain ⟨xa2, xc2, hx2, _, _, _⟩ := hf.shape
  have F1 := fun W hb => fexpr_prog W e _ _ (hk W hb) hfit
  have F2 := fun W hb => fold_ref W e _ _ (hk W hb) hfit
  have SS := fun W hb => same_self _ W _ _ _ _ (foldOk (hk W hb) (fv e)) (foldOk (hk W hb) (fv e))
  unfold FoldRet at F1 F2
  rw [ht2, hx2] at F1 F2 SS
  exact told_raw w e.op e.t.form e.t.num e.i _ _ _ _ _ e.t.name e.s _ _ e.t.k tc e.k xc _ tc2 _ xc2 ta xa ta2 xa2 (isC e) F1 F2 SS (fun W _ => is_prog W e _ _) (fun W _ => is_ref W e _ _)

/-- The chapter's expression. -/
def kE (op b : Int) : Ex := .mk op (tyF 1) 0 ByteArray.empty 2 (fun j => if j = 0 then numE 1 1 else numE 1 b)
theorem kE_all (op b : Int) : allC (kE op b).k (kE op b).x = true := allC_true fun j hj => by
  have : (kE op b).x j = numE 1 1 ∨ (kE op b).x j = numE 1 b := by
    show (if j = 0 then numE 1 1 else numE 1 b) = _ ∨ (if j = 0 then numE 1 1 else numE 1 b) = _
    split
    · exact Or.inl rfl
    · exact Or.inr rfl
  rcases this with h | h <;> rw [h] <;> rfl
theorem kE_fv1 : fv (kE 9 2) = some (3, true) := by
  unfold fv
  rw [if_neg (fun h => by have := h.1; simp [kE, Ex.op] at this), if_neg (fun h => by have := h.1; simp [kE, Ex.op, isUn] at this), if_pos ⟨by simp [kE, Ex.op, isBi], rfl, kE_all 9 2⟩]
  show some (biI 9 1 1 2, biB 9 1 2) = _
  have : biI 9 1 1 2 = 3 := by simp [biI]; unfold wrap32; decide
  rw [this]; rfl
theorem kE_fv2 : fv (kE 12 0) = some (0, false) := by
  unfold fv
  rw [if_neg (fun h => by have := h.1; simp [kE, Ex.op] at this), if_neg (fun h => by have := h.1; simp [kE, Ex.op, isUn] at this), if_pos ⟨by simp [kE, Ex.op, isBi], rfl, kE_all 12 0⟩]
  rfl
theorem kE_fit (op b : Int) (hb : -2147483648 ≤ b ∧ b ≤ 2147483647) : Fit (kE op b) := ⟨⟨by decide, by decide⟩, fun j hj => by
  show Fit (if j = 0 then numE 1 1 else numE 1 b)
  split
  · exact ⟨⟨by decide, by decide⟩, fun i hi => absurd hi (by omega)⟩
  · exact ⟨hb, fun i hi => absurd hi (by omega)⟩⟩
theorem blkAt5 {k : Nat} (w : World) (o : Obj) (h : k = w.heap.size) : (w.alloc o).heap[k]? = some o := by subst h; exact heap_alloc_new w o
theorem kE_ok (W : World) (b : Nat) (op v : Int) (h : ∀ j, W.cell? ⟨b, j, none⟩ = (#[.int .i64 0, .int .i64 1, .int .i64 0, .string ByteArray.empty, .slice none 0 0, .int .i32 1, .string ByteArray.empty, .slice none 0 0, .int .i64 0, .int .i64 1, .int .i64 0, .string ByteArray.empty, .slice none 0 0, .int .i32 v, .string ByteArray.empty, .slice none 0 0] : Array Value)[j]?) : ExOk W (kE op v) (.slice none 0 0) (.slice (some ⟨b, 0, none⟩) 2 2) := by
  refine ⟨TyOk.leaf W 1, _, _, rfl, Nat.le_refl _, by decide, fun _ => ⟨b, 0, rfl, fun j hj => ?_⟩⟩
  match j, hj with
  | 0, _ => exact ⟨_, _, ExOk.num W 1 1, ⟨h 0, h 1, h 2, h 3, h 4, h 5, h 6, h 7⟩⟩
  | 1, _ => exact ⟨_, _, ExOk.num W 1 v, ⟨h 8, h 9, h 10, h 11, h 12, h 13, h 14, h 15⟩⟩
set_option maxHeartbeats 6400000 in
theorem known_prog (w : World) : Calls Try.prog 6 #[] w fun e w' => e = .returned (.bool true) ∧ Below w.heap.size w w' := by
  go_enter Try.func6, Try.ntmps6
  go_wp2_with fail
  refine (basic_ref w 1).mono ?_
  rintro en w1 ⟨he, hb1⟩
  obtain rfl : en = .returned (.agg #[.int .i64 1, .int .i64 0, .string ByteArray.empty, .slice none 0 0]) := he
  go_wp2_with fail
  refine (num_prog w1 1 1).mono ?_
  rintro en w2 ⟨he, hb2⟩
  obtain rfl : en = .returned (.agg #[.int .i64 0, .int .i64 1, .int .i64 0, .string ByteArray.empty, .slice none 0 0, .int .i32 1, .string ByteArray.empty, .slice none 0 0]) := he
  go_wp2_with fail
  refine (num_prog w2 1 2).mono ?_
  rintro en w3 ⟨he, hb3⟩
  obtain rfl : en = .returned (.agg #[.int .i64 0, .int .i64 1, .int .i64 0, .string ByteArray.empty, .slice none 0 0, .int .i32 2, .string ByteArray.empty, .slice none 0 0]) := he
  go_wp2_with fail
  have hb03 : Below w.heap.size w w3 := (hb1.trans ((hb2.trans (hb3.mono hb2.size)).mono hb1.size))
  obtain ⟨wa, hwa⟩ : ∃ wa : World, wa = ((w3.alloc (.cells #[.int .i64 0, .int .i64 1, .int .i64 0, .string ByteArray.empty, .slice none 0 0, .int .i32 1, .string ByteArray.empty, .slice none 0 0, .int .i64 0, .int .i64 1, .int .i64 0, .string ByteArray.empty, .slice none 0 0, .int .i32 2, .string ByteArray.empty, .slice none 0 0] 27)).alloc (.cells #[.int .i64 9, .int .i64 1, .int .i64 0, .string ByteArray.empty, .slice none 0 0, .int .i32 0, .string ByteArray.empty, .slice (some ⟨w3.heap.size, 0, none⟩) 2 2] 27)) := ⟨_, rfl⟩
  change Calls _ _ #[.agg #[.int .i64 9, .int .i64 1, .int .i64 0, .string ByteArray.empty, .slice none 0 0, .int .i32 0, .string ByteArray.empty, .slice (some ⟨w3.heap.size, 0, none⟩) 2 2]] ((w3.alloc (.cells #[.int .i64 0, .int .i64 1, .int .i64 0, .string ByteArray.empty, .slice none 0 0, .int .i32 1, .string ByteArray.empty, .slice none 0 0, .int .i64 0, .int .i64 1, .int .i64 0, .string ByteArray.empty, .slice none 0 0, .int .i32 2, .string ByteArray.empty, .slice none 0 0] 27)).alloc (.cells #[.int .i64 9, .int .i64 1, .int .i64 0, .string ByteArray.empty, .slice none 0 0, .int .i32 0, .string ByteArray.empty, .slice (some ⟨w3.heap.size, 0, none⟩) 2 2] 27)) _
  rw [← hwa]
  have hX := (show wa.heap[w3.heap.size]? = some (.cells #[.int .i64 0, .int .i64 1, .int .i64 0, .string ByteArray.empty, .slice none 0 0, .int .i32 1, .string ByteArray.empty, .slice none 0 0, .int .i64 0, .int .i64 1, .int .i64 0, .string ByteArray.empty, .slice none 0 0, .int .i32 2, .string ByteArray.empty, .slice none 0 0] 27 (0, 0)) from by rw [hwa]; exact heap_alloc2_old w3 _ _)
  have hE := (show wa.heap[w3.heap.size + 1]? = some (.cells #[.int .i64 9, .int .i64 1, .int .i64 0, .string ByteArray.empty, .slice none 0 0, .int .i32 0, .string ByteArray.empty, .slice (some ⟨w3.heap.size, 0, none⟩) 2 2] 27 (0, 0)) from by rw [hwa]; exact heap_alloc2_new w3 _ _)
  have hsa : wa.heap.size = w3.heap.size + 2 := by rw [hwa]; simp
  have hba : Below w.heap.size w wa := by rw [hwa]; exact (hb03.alloc hb03.size _).alloc (by have := hb03.size; simp; omega) _
  refine (fexpr_prog wa (kE 9 2) (.slice none 0 0) (.slice (some ⟨w3.heap.size, 0, none⟩) 2 2) (kE_ok wa _ 9 2 (fun j => cell_of_row wa _ j _ _ _ hX)) (kE_fit 9 2 (by decide))).mono ?_
  rw [kE_fv1]
  rintro en w4 ⟨he, hb4⟩
  obtain rfl : en = .returned (.tuple #[.agg #[.int .i64 0, .int .i64 1, .int .i64 0, .string ByteArray.empty, .slice none 0 0, .int .i32 3, .string ByteArray.empty, .slice none 0 0], .int .i64 0]) := he
  have hX4 := hX
  rw [← hb4.block _ (by omega)] at hX4
  have hE4 := hE
  rw [← hb4.block _ (by omega)] at hE4
  have e0 := row8 hE4 0 _ rfl
  have e1 := row8 hE4 1 _ rfl
  have e2 := row8 hE4 2 _ rfl
  have e3 := row8 hE4 3 _ rfl
  have e4 := row8 hE4 4 _ rfl
  have e5 := row8 hE4 5 _ rfl
  have e6 := row8 hE4 6 _ rfl
  have e7 := row8 hE4 7 _ rfl
  have fe0 := frozen_of_row w4 _ 0 _ _ hE4
  have x13 : w4.cell? ⟨w3.heap.size, 13, none⟩ = some (.int .i32 2) := row8 hX4 13 _ rfl
  have fx13 := frozen_of_row w4 _ 13 _ _ hX4
  have hsz := hb4.size
  have HX4 := Lib.hid hX4
  have HE4 := Lib.hid hE4
  have HBA := Lib.hid hba
  have HB4 := Lib.hid hb4
  have HSA := Lib.hid hsa
  have HWS := Lib.hid hb03.size
  have hl1 : w3.heap.size < w4.heap.size := by omega
  have hl2 : w3.heap.size + 1 < w4.heap.size := by omega
  have hl3 : w3.heap.size + 1 ≠ w3.heap.size := by omega
  clear hX hE hX4 hE4 hba hb4 hwa hb03 hb1 hb2 hb3 hsa
  go_upto_region 5 with fail
  obtain ⟨w5, hw5⟩ : ∃ w5 : World, w5 = (((w4.setCell ⟨w3.heap.size + 1, 0, none⟩ (.int .i64 12)).setCell ⟨w3.heap.size, 13, none⟩ (.int .i32 0)).alloc (.cells #[.int .i64 0, .int .i64 1, .int .i64 0, .string ByteArray.empty, .slice none 0 0, .int .i32 3, .string ByteArray.empty, .slice none 0 0] 27)) := ⟨_, rfl⟩
  change Code.wp _ _ _ _ (((w4.setCell ⟨w3.heap.size + 1, 0, none⟩ (.int .i64 12)).setCell ⟨w3.heap.size, 13, none⟩ (.int .i32 0)).alloc (.cells #[.int .i64 0, .int .i64 1, .int .i64 0, .string ByteArray.empty, .slice none 0 0, .int .i32 3, .string ByteArray.empty, .slice none 0 0] 27))
  rw [← hw5]
  have hs5 : w5.heap.size = w4.heap.size + 1 := by rw [hw5]; simp [World.setCell]
  have hE5 : w5.heap[w3.heap.size + 1]? = some (.cells #[.int .i64 12, .int .i64 1, .int .i64 0, .string ByteArray.empty, .slice none 0 0, .int .i32 0, .string ByteArray.empty, .slice (some ⟨w3.heap.size, 0, none⟩) 2 2] 27 (0, 0)) := by
    rw [hw5]
    exact blk_alloc (by rw [Below.heap_setCell _ _ _ _ (by exact hl3), heap_setCell_same _ _ 0 _ _ _ HE4.out]; rfl) _
  have hX5 : w5.heap[w3.heap.size]? = some (.cells #[.int .i64 0, .int .i64 1, .int .i64 0, .string ByteArray.empty, .slice none 0 0, .int .i32 1, .string ByteArray.empty, .slice none 0 0, .int .i64 0, .int .i64 1, .int .i64 0, .string ByteArray.empty, .slice none 0 0, .int .i32 0, .string ByteArray.empty, .slice none 0 0] 27 (0, 0)) := by
    rw [hw5]
    have h1 : (w4.setCell ⟨w3.heap.size + 1, 0, none⟩ (.int .i64 12)).heap[w3.heap.size]? = some (.cells #[.int .i64 0, .int .i64 1, .int .i64 0, .string ByteArray.empty, .slice none 0 0, .int .i32 1, .string ByteArray.empty, .slice none 0 0, .int .i64 0, .int .i64 1, .int .i64 0, .string ByteArray.empty, .slice none 0 0, .int .i32 2, .string ByteArray.empty, .slice none 0 0] 27 (0, 0)) := by
      rw [Below.heap_setCell _ _ _ _ (by exact fun e => hl3 e.symm)]; exact HX4.out
    exact blk_alloc (by rw [heap_setCell_same _ _ 13 _ _ _ h1]; rfl) _
  have hN5 : w5.heap[w4.heap.size]? = some (.cells #[.int .i64 0, .int .i64 1, .int .i64 0, .string ByteArray.empty, .slice none 0 0, .int .i32 3, .string ByteArray.empty, .slice none 0 0] 27 (0, 0)) := by
    rw [hw5]; exact blkAt5 _ _ (by simp [World.setCell])
  have hb5 : Below w.heap.size w w5 := by
    have h3 : w.heap.size ≤ w3.heap.size := by have := HBA.out; have h := HSA.out; exact HWS.out
    rw [hw5]
    have hx := HBA.out.trans (HB4.out.mono HBA.out.size)
    exact ((hx.setCell (by show w.heap.size ≤ w3.heap.size + 1; omega) _).setCell (by exact h3) _).alloc (by simp [World.setCell]; exact hx.size) _
  clear e0 e1 e2 e3 e4 e5 e6 e7 fe0 x13 fx13 hw5
  have e0 : w5.cell? ⟨w3.heap.size + 1, 0, none⟩ = some (.int .i64 12) := row8 hE5 0 _ rfl
  have e1 : w5.cell? ⟨w3.heap.size + 1, 1, none⟩ = some (.int .i64 1) := row8 hE5 1 _ rfl
  have e2 : w5.cell? ⟨w3.heap.size + 1, 2, none⟩ = some (.int .i64 0) := row8 hE5 2 _ rfl
  have e3 : w5.cell? ⟨w3.heap.size + 1, 3, none⟩ = some (.string ByteArray.empty) := row8 hE5 3 _ rfl
  have e4 : w5.cell? ⟨w3.heap.size + 1, 4, none⟩ = some (.slice none 0 0) := row8 hE5 4 _ rfl
  have e5 : w5.cell? ⟨w3.heap.size + 1, 5, none⟩ = some (.int .i32 0) := row8 hE5 5 _ rfl
  have e6 : w5.cell? ⟨w3.heap.size + 1, 6, none⟩ = some (.string ByteArray.empty) := row8 hE5 6 _ rfl
  have e7 : w5.cell? ⟨w3.heap.size + 1, 7, none⟩ = some (.slice (some ⟨w3.heap.size, 0, none⟩) 2 2) := row8 hE5 7 _ rfl
  have HF := Lib.hid (fexpr_prog w5 (kE 12 0) (.slice none 0 0) (.slice (some ⟨w3.heap.size, 0, none⟩) 2 2) (kE_ok w5 _ 12 0 (fun j => cell_of_row w5 _ j _ _ _ hX5)) (kE_fit 12 0 (by decide)))
  rw [kE_fv2] at HF
  have HE5 := Lib.hid hE5
  have HN5 := Lib.hid hN5
  have HB5 := Lib.hid hb5
  have HS5 := Lib.hid hs5
  clear hE5 hX5 hN5 hb5 hs5
  go_wp2_with fail
  refine HF.out.mono ?_
  rintro en w6 ⟨he, hb6⟩
  obtain rfl : en = .returned (.tuple #[.agg #[.int .i64 0, .int .i64 0, .int .i64 0, .string ByteArray.empty, .slice none 0 0, .int .i32 0, .string ByteArray.empty, .slice none 0 0], .int .i64 33]) := he
  have hE6 := HE5.out
  rw [← hb6.block _ (by have := HS5.out; omega)] at hE6
  have hN6 := HN5.out
  rw [← hb6.block _ (by have := HS5.out; omega)] at hN6
  have hs6 := hb6.size
  have hl6 : w4.heap.size < w6.heap.size := by have := HS5.out; omega
  have hl7 : w3.heap.size + 1 < w6.heap.size := by omega
  obtain ⟨w7, hw7⟩ : ∃ w7 : World, w7 = w6.alloc (.cells #[.int .i64 0, .int .i64 0, .int .i64 0, .string ByteArray.empty, .slice none 0 0, .int .i32 0, .string ByteArray.empty, .slice none 0 0] 27) := ⟨_, rfl⟩
  have hE7 : w7.heap[w3.heap.size + 1]? = some (.cells #[.int .i64 12, .int .i64 1, .int .i64 0, .string ByteArray.empty, .slice none 0 0, .int .i32 0, .string ByteArray.empty, .slice (some ⟨w3.heap.size, 0, none⟩) 2 2] 27 (0, 0)) := by rw [hw7]; exact blk_alloc hE6 _
  have hN7 : w7.heap[w4.heap.size]? = some (.cells #[.int .i64 0, .int .i64 1, .int .i64 0, .string ByteArray.empty, .slice none 0 0, .int .i32 3, .string ByteArray.empty, .slice none 0 0] 27 (0, 0)) := by rw [hw7]; exact blk_alloc hN6 _
  have hb57 : Below w5.heap.size w5 w7 := by rw [hw7]; exact hb6.alloc hb6.size _
  have HB7 := Lib.hid (HB5.out.trans (hb57.mono HB5.out.size))
  have HE7 := Lib.hid hE7
  clear e0 e1 e2 e3 e4 e5 e6 e7 hb6 hE6 hN6 hb57
  have n0 : (w6.alloc (.cells #[.int .i64 0, .int .i64 0, .int .i64 0, .string ByteArray.empty, .slice none 0 0, .int .i32 0, .string ByteArray.empty, .slice none 0 0] 27)).cell? ⟨w4.heap.size, 0, none⟩ = some (.int .i64 0) := by rw [← hw7]; exact row8 hN7 0 _ rfl
  have n1 : (w6.alloc (.cells #[.int .i64 0, .int .i64 0, .int .i64 0, .string ByteArray.empty, .slice none 0 0, .int .i32 0, .string ByteArray.empty, .slice none 0 0] 27)).cell? ⟨w4.heap.size, 1, none⟩ = some (.int .i64 1) := by rw [← hw7]; exact row8 hN7 1 _ rfl
  have n2 : (w6.alloc (.cells #[.int .i64 0, .int .i64 0, .int .i64 0, .string ByteArray.empty, .slice none 0 0, .int .i32 0, .string ByteArray.empty, .slice none 0 0] 27)).cell? ⟨w4.heap.size, 2, none⟩ = some (.int .i64 0) := by rw [← hw7]; exact row8 hN7 2 _ rfl
  have n3 : (w6.alloc (.cells #[.int .i64 0, .int .i64 0, .int .i64 0, .string ByteArray.empty, .slice none 0 0, .int .i32 0, .string ByteArray.empty, .slice none 0 0] 27)).cell? ⟨w4.heap.size, 3, none⟩ = some (.string ByteArray.empty) := by rw [← hw7]; exact row8 hN7 3 _ rfl
  have n4 : (w6.alloc (.cells #[.int .i64 0, .int .i64 0, .int .i64 0, .string ByteArray.empty, .slice none 0 0, .int .i32 0, .string ByteArray.empty, .slice none 0 0] 27)).cell? ⟨w4.heap.size, 4, none⟩ = some (.slice none 0 0) := by rw [← hw7]; exact row8 hN7 4 _ rfl
  have n5 : (w6.alloc (.cells #[.int .i64 0, .int .i64 0, .int .i64 0, .string ByteArray.empty, .slice none 0 0, .int .i32 0, .string ByteArray.empty, .slice none 0 0] 27)).cell? ⟨w4.heap.size, 5, none⟩ = some (.int .i32 3) := by rw [← hw7]; exact row8 hN7 5 _ rfl
  have n6 : (w6.alloc (.cells #[.int .i64 0, .int .i64 0, .int .i64 0, .string ByteArray.empty, .slice none 0 0, .int .i32 0, .string ByteArray.empty, .slice none 0 0] 27)).cell? ⟨w4.heap.size, 6, none⟩ = some (.string ByteArray.empty) := by rw [← hw7]; exact row8 hN7 6 _ rfl
  have n7 : (w6.alloc (.cells #[.int .i64 0, .int .i64 0, .int .i64 0, .string ByteArray.empty, .slice none 0 0, .int .i32 0, .string ByteArray.empty, .slice none 0 0] 27)).cell? ⟨w4.heap.size, 7, none⟩ = some (.slice none 0 0) := by rw [← hw7]; exact row8 hN7 7 _ rfl
  have HN7 := Lib.hid hN7
  have HW7 := Lib.hid hw7
  clear hE7 hN7 hw7
  go_wp2_with fail
  rw [← HW7.out]
  refine (is_prog w7 (numE 1 3) (.slice none 0 0) (.slice none 0 0)).mono ?_
  rintro en w8 ⟨he, hb8⟩
  obtain rfl : en = .returned (.bool true) := he
  have h7s : w7.heap.size = w6.heap.size + 1 := by rw [HW7.out]; simp
  have hN8 := HN7.out
  rw [← hb8.block _ (by omega)] at hN8
  have hE8 := HE7.out
  rw [← hb8.block _ (by omega)] at hE8
  clear n0 n1 n2 n3 n4 n5 n6 n7
  have n5 : w8.cell? ⟨w4.heap.size, 5, none⟩ = some (.int .i32 3) := row8 hN8 5 _ rfl
  have e0 : w8.cell? ⟨w3.heap.size + 1, 0, none⟩ = some (.int .i64 12) := row8 hE8 0 _ rfl
  have e1 : w8.cell? ⟨w3.heap.size + 1, 1, none⟩ = some (.int .i64 1) := row8 hE8 1 _ rfl
  have e2 : w8.cell? ⟨w3.heap.size + 1, 2, none⟩ = some (.int .i64 0) := row8 hE8 2 _ rfl
  have e3 : w8.cell? ⟨w3.heap.size + 1, 3, none⟩ = some (.string ByteArray.empty) := row8 hE8 3 _ rfl
  have e4 : w8.cell? ⟨w3.heap.size + 1, 4, none⟩ = some (.slice none 0 0) := row8 hE8 4 _ rfl
  have e5 : w8.cell? ⟨w3.heap.size + 1, 5, none⟩ = some (.int .i32 0) := row8 hE8 5 _ rfl
  have e6 : w8.cell? ⟨w3.heap.size + 1, 6, none⟩ = some (.string ByteArray.empty) := row8 hE8 6 _ rfl
  have e7 : w8.cell? ⟨w3.heap.size + 1, 7, none⟩ = some (.slice (some ⟨w3.heap.size, 0, none⟩) 2 2) := row8 hE8 7 _ rfl
  have HB8 := Lib.hid (HB7.out.trans (hb8.mono HB7.out.size))
  clear hb8 hN8 hE8
  go_wp2_with fail
  refine (is_prog w8 (kE 12 0) (.slice none 0 0) (.slice (some ⟨w3.heap.size, 0, none⟩) 2 2)).mono ?_
  rintro en w9 ⟨he, hb9⟩
  obtain rfl : en = .returned (.bool false) := he
  have HB9 := Lib.hid (HB8.out.trans (hb9.mono HB8.out.size))
  clear hb9 n5 e0 e1 e2 e3 e4 e5 e6 e7
  go_wp2_with fail
  go_ret
  exact ⟨rfl, HB9.out⟩
end Go.Proofs.Ytiikeilpgajmfaa
