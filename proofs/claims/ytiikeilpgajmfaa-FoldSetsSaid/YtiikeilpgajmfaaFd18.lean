/- Fold: LightExpr; FoldTells. (Printed by gen_fd18.py.) -/
import Derived.Test.YtiikeilpgajmfaaFd17
namespace Go.Proofs.Ytiikeilpgajmfaa
open Go.RowKit Go.Waf
set_option maxRecDepth 100000
set_option linter.unusedVariables false
set_option linter.unusedSimpArgs false

set_option maxHeartbeats 3200000 in
theorem light_any (w : World) (e : Ex) (tv xv : Value) (hok : ExOk w e tv xv) : Calls Try.prog 7 #[exV e tv xv] w fun en w' => SomeBool en ∧ Below w.heap.size w w' := by
  cases e with
  | none => exact hok.elim
  | mk op t i s k x =>
  have hok0 := hok
  obtain ⟨hty, a, c, rfl, h1, h2, hx⟩ := hok
  obtain ⟨ta, tc, rfl, _, _⟩ := hty.shape
  show Calls _ _ #[.agg #[.int .i64 op, .int .i64 t.form, .int .i64 t.num, .string t.name, .slice ta t.k tc, .int .i32 i, .string s, .slice a k c]] w _
  obtain ⟨w1, hw1⟩ : ∃ w1 : World, w1 = (w.alloc (.cells #[.int .i64 op, .int .i64 t.form, .int .i64 t.num, .string t.name, .slice ta t.k tc, .int .i32 i, .string s, .slice a k c] 27)).alloc (.cells #[.int .i64 100000] 43) := ⟨_, rfl⟩
  have hb01 : Below w.heap.size w w1 := by rw [hw1]; exact ((Below.refl _ _).alloc (Nat.le_refl _) _).alloc (by simp) _
  have HE := Lib.hid (show w1.heap[w.heap.size]? = some (.cells #[.int .i64 op, .int .i64 t.form, .int .i64 t.num, .string t.name, .slice ta t.k tc, .int .i32 i, .string s, .slice a k c] 27 (0, 0)) from by rw [hw1]; exact heap_alloc2_old w _ _)
  have hq : ScOk (w.heap.size + 1) w1 := ⟨100000, by rw [hw1]; exact heap_alloc2_new w _ _⟩
  have hs1 : w.heap.size + 2 ≤ w1.heap.size := by rw [hw1]; simp
  have HD := Lib.hid (depth_any _ w1 _ _ 100 (by decide) (by decide) (ExOk.below hb01 (Nat.le_refl _) _ _ _ hok0))
  have HEX := Lib.hid (fun W (hb : Below w.heap.size w W) (hq : ScOk (w.heap.size + 1) W) => expr_any _ w W (w.heap.size + 1) _ _ 300 (by decide) (by decide) hok0 hb (by omega) hq)
  have HQ := Lib.hid hq
  have HB01 := Lib.hid hb01
  have HW1 := Lib.hid hw1
  unfold exV at HD HEX
  clear hok0 hty hx hw1 hb01 hq
  go_enter Try.func7, Try.ntmps7
  go_wp2_with fail
  rw [← HW1.out]
  refine HD.out.mono ?_
  rintro en w2 ⟨⟨r, rfl⟩, hb2⟩
  have hb02 : Below w.heap.size w w2 := HB01.out.trans (hb2.mono (by omega))
  have HB2 := Lib.hid hb02
  cases r
  · clear hb2 hb02
    go_wp2_with fail
    go_ret
    exact ⟨⟨_, rfl⟩, HB2.out⟩
  · have hE := HE.out
    rw [← hb2.block _ (by omega)] at hE
    have e0 : w2.cell? ⟨w.heap.size, 0, none⟩ = some (.int .i64 op) := row8 hE 0 _ rfl
    have e1 : w2.cell? ⟨w.heap.size, 1, none⟩ = some (.int .i64 t.form) := row8 hE 1 _ rfl
    have e2 : w2.cell? ⟨w.heap.size, 2, none⟩ = some (.int .i64 t.num) := row8 hE 2 _ rfl
    have e3 : w2.cell? ⟨w.heap.size, 3, none⟩ = some (.string t.name) := row8 hE 3 _ rfl
    have e4 : w2.cell? ⟨w.heap.size, 4, none⟩ = some (.slice ta t.k tc) := row8 hE 4 _ rfl
    have e5 : w2.cell? ⟨w.heap.size, 5, none⟩ = some (.int .i32 i) := row8 hE 5 _ rfl
    have e6 : w2.cell? ⟨w.heap.size, 6, none⟩ = some (.string s) := row8 hE 6 _ rfl
    have e7 : w2.cell? ⟨w.heap.size, 7, none⟩ = some (.slice a k c) := row8 hE 7 _ rfl
    have HX2 := Lib.hid (HEX.out w2 hb02 (HQ.out.below hb2))
    clear hb2 hb02 hE
    go_wp2_with fail
    refine HX2.out.mono ?_
    rintro en w3 ⟨⟨r, rfl⟩, hs3, hf3⟩
    have HB3 := Lib.hid (HB2.out.trans (hf3.below HB2.out.size (fun i hi he => by omega)))
    clear hs3 hf3 e0 e1 e2 e3 e4 e5 e6 e7
    cases r
    all_goals
      go_wp2_with fail
      go_ret
      exact ⟨⟨_, rfl⟩, HB3.out⟩
set_option maxHeartbeats 3200000 in
theorem foldTells_any (w : World) (e : Ex) (tv xv : Value) (hok : ExOk w e tv xv) (hfit : Fit e) : Calls Try.prog 3 #[exV e tv xv] w fun en w' => en = .returned (.bool true) ∧ Below w.heap.size w w' := by
  cases e with
  | none => exact hok.elim
  | mk op t i s k x =>
  have hok0 := hok
  obtain ⟨hty, a, c, rfl, h1, h2, hx⟩ := hok
  obtain ⟨ta, tc, rfl, _, _⟩ := hty.shape
  show Calls _ _ #[.agg #[.int .i64 op, .int .i64 t.form, .int .i64 t.num, .string t.name, .slice ta t.k tc, .int .i32 i, .string s, .slice a k c]] w _
  obtain ⟨w1, hw1⟩ : ∃ w1 : World, w1 = w.alloc (.cells #[.int .i64 op, .int .i64 t.form, .int .i64 t.num, .string t.name, .slice ta t.k tc, .int .i32 i, .string s, .slice a k c] 27) := ⟨_, rfl⟩
  have hb01 : Below w.heap.size w w1 := by rw [hw1]; exact (Below.refl _ _).alloc (Nat.le_refl _) _
  have HE := Lib.hid (show w1.heap[w.heap.size]? = some (.cells #[.int .i64 op, .int .i64 t.form, .int .i64 t.num, .string t.name, .slice ta t.k tc, .int .i32 i, .string s, .slice a k c] 27 (0, 0)) from by rw [hw1]; exact heap_alloc_new w _)
  have hs1 : w.heap.size + 1 ≤ w1.heap.size := by rw [hw1]; simp
  have HK := Lib.hid (known_prog w1)
  have HL := Lib.hid (fun W (hb : Below w.heap.size w W) => light_any W _ _ _ (ExOk.below hb (Nat.le_refl _) _ _ _ hok0))
  have HT := Lib.hid (fun W (hb : Below w.heap.size w W) => told_any W _ _ _ (ExOk.below hb (Nat.le_refl _) _ _ _ hok0) hfit)
  have HB01 := Lib.hid hb01
  have HW1 := Lib.hid hw1
  unfold exV at HL HT
  clear hok0 hfit hty hx hw1 hb01
  go_enter Try.func3, Try.ntmps3
  go_wp2_with fail
  rw [← HW1.out]
  refine HK.out.mono ?_
  rintro en w2 ⟨rfl, hb2⟩
  have hE := HE.out
  rw [← hb2.block _ (by omega)] at hE
  have e0 : w2.cell? ⟨w.heap.size, 0, none⟩ = some (.int .i64 op) := row8 hE 0 _ rfl
  have e1 : w2.cell? ⟨w.heap.size, 1, none⟩ = some (.int .i64 t.form) := row8 hE 1 _ rfl
  have e2 : w2.cell? ⟨w.heap.size, 2, none⟩ = some (.int .i64 t.num) := row8 hE 2 _ rfl
  have e3 : w2.cell? ⟨w.heap.size, 3, none⟩ = some (.string t.name) := row8 hE 3 _ rfl
  have e4 : w2.cell? ⟨w.heap.size, 4, none⟩ = some (.slice ta t.k tc) := row8 hE 4 _ rfl
  have e5 : w2.cell? ⟨w.heap.size, 5, none⟩ = some (.int .i32 i) := row8 hE 5 _ rfl
  have e6 : w2.cell? ⟨w.heap.size, 6, none⟩ = some (.string s) := row8 hE 6 _ rfl
  have e7 : w2.cell? ⟨w.heap.size, 7, none⟩ = some (.slice a k c) := row8 hE 7 _ rfl
  have hb02 := HB01.out.trans (hb2.mono (by omega))
  have hs2 := hb2.size
  have HL2 := Lib.hid (HL.out w2 hb02)
  have HE2 := Lib.hid hE
  have HB2 := Lib.hid hb02
  clear hE hb2 hb02
  go_wp2_with fail
  refine HL2.out.mono ?_
  rintro en w3 ⟨⟨r, rfl⟩, hb3⟩
  have hE := HE2.out
  rw [← hb3.block _ (by omega)] at hE
  clear e0 e1 e2 e3 e4 e5 e6 e7
  have e0 : w3.cell? ⟨w.heap.size, 0, none⟩ = some (.int .i64 op) := row8 hE 0 _ rfl
  have e1 : w3.cell? ⟨w.heap.size, 1, none⟩ = some (.int .i64 t.form) := row8 hE 1 _ rfl
  have e2 : w3.cell? ⟨w.heap.size, 2, none⟩ = some (.int .i64 t.num) := row8 hE 2 _ rfl
  have e3 : w3.cell? ⟨w.heap.size, 3, none⟩ = some (.string t.name) := row8 hE 3 _ rfl
  have e4 : w3.cell? ⟨w.heap.size, 4, none⟩ = some (.slice ta t.k tc) := row8 hE 4 _ rfl
  have e5 : w3.cell? ⟨w.heap.size, 5, none⟩ = some (.int .i32 i) := row8 hE 5 _ rfl
  have e6 : w3.cell? ⟨w.heap.size, 6, none⟩ = some (.string s) := row8 hE 6 _ rfl
  have e7 : w3.cell? ⟨w.heap.size, 7, none⟩ = some (.slice a k c) := row8 hE 7 _ rfl
  have hb03 := HB2.out.trans (hb3.mono HB2.out.size)
  have HT3 := Lib.hid (HT.out w3 hb03)
  have HB3 := Lib.hid hb03
  clear hE hb3 hb03
  cases r
  · go_wp2_with fail
    go_ret
    exact ⟨rfl, HB3.out⟩
  · go_wp2_with fail
    refine HT3.out.mono ?_
    rintro en w4 ⟨rfl, hb4⟩
    have HB4 := Lib.hid (HB3.out.trans (hb4.mono HB3.out.size))
    clear hb4
    go_wp2_with fail
    go_ret
    exact ⟨rfl, HB4.out⟩
end Go.Proofs.Ytiikeilpgajmfaa
