/- Trees: a clone of expressions. -/
import Derived.Test.YtipcnkgojonmjaaTr17
namespace Go.Proofs.Ytipcnkgojonmjaa
open Go.RowKit Go.Waf
set_option maxRecDepth 100000
set_option linter.unusedVariables false
set_option linter.unusedSimpArgs false

theorem some8 {w : World} {b : Nat} {T : TypeId} {v0 v1 v2 v3 v4 v5 v6 v7 : Value} (h : w.heap[b]? = some (.cells #[v0, v1, v2, v3, v4, v5, v6, v7] T (0, 0))) (i : Nat) (hi : i < 8 := by decide) : (w.cell? ⟨b, i, none⟩).isSome = true := by
  rw [cell_of_row _ _ i _ _ _ h]
  rcases (by omega : i = 0 ∨ i = 1 ∨ i = 2 ∨ i = 3 ∨ i = 4 ∨ i = 5 ∨ i = 6 ∨ i = 7) with rfl | rfl | rfl | rfl | rfl | rfl | rfl | rfl <;> rfl
theorem clone_ok {F : Nat → Prop} {w : World} {e : Ex} {v : Value} {K : Nat} (h : ExsInB F w v K e.x) (hK : K = e.k) (hn : e ≠ .none) (ht : e.t.k = 0 ∧ e.t ≠ .none) : ExOkB F w e (.slice none 0 0) v := by
  subst hK
  cases e with
  | none => exact absurd rfl hn
  | mk op t i s k x =>
    refine ⟨?_, h⟩
    obtain ⟨h1, h2⟩ := ht
    cases t with
    | none => exact absurd rfl h2
    | mk f n s k of => exact ⟨none, 0, by have : k = 0 := h1; rw [this], by have : k = 0 := h1; omega, by decide, fun h0 => absurd h0 (by have : k = 0 := h1; omega)⟩
set_option maxHeartbeats 6400000 in
theorem clone_of (e : Ex) (ht : e.t.k = 0) (hk : e.k ≤ 1000) (hl : e.k ≤ 1 ∨ ∀ j, j < e.k → Leaf (e.x j)) (hc : ∀ j, j < e.k → CloneP (e.x j)) : CloneP e := by
  intro w tv xv hok
  obtain ⟨ta, tc, rfl, t1, t2⟩ := hok.ty.shape
  obtain ⟨xa, xc, rfl, x1, x2, hx⟩ := hok.shape
  have HX := Lib.hid (fun W (hb : Below w.heap.size w W) => each_Ex W xa e.k xc e.x x1 x2 hk (hx.below hb (Nat.le_refl _)) hc hl)
  have HNN := Lib.hid (show e ≠ .none from fun h => by rw [h] at hok; exact hok.elim)
  have HTK := Lib.hid (show e.t.k = 0 ∧ e.t ≠ .none from ⟨ht, fun h => by have := hok.ty; rw [h] at this; exact this.elim⟩)
  unfold exV
  rw [ht]
  obtain ⟨K, hK⟩ : ∃ k, k = e.k := ⟨_, rfl⟩
  rw [← hK] at HX
  rw [← hK]
  have HK := Lib.hid hK
  have HT := Lib.hid (fun W => cloneType_leaf W e.t.form e.t.num e.t.name ta tc)
  obtain ⟨w1, hw1⟩ : ∃ w1 : World, w1 = (w.alloc (.cells #[.int .i64 e.op, .int .i64 e.t.form, .int .i64 e.t.num, .string e.t.name, .slice ta 0 tc, .int .i32 e.i, .string e.s, .slice xa K xc] 36)).alloc (.cells #[.int .i64 0, .int .i64 0, .int .i64 0, .string { data := #[] }, .slice none 0 0, .int .i32 0, .string { data := #[] }, .slice none 0 0] 36) := ⟨_, rfl⟩
  have hb1 : Below w.heap.size w w1 := by rw [hw1]; exact ((Below.refl _ _).alloc (Nat.le_refl _) _).alloc (by simp) _
  have HZ := Lib.hid (show w1.heap[w.heap.size]? = some (.cells #[.int .i64 e.op, .int .i64 e.t.form, .int .i64 e.t.num, .string e.t.name, .slice ta 0 tc, .int .i32 e.i, .string e.s, .slice xa K xc] 36 (0, 0)) from by rw [hw1]; exact heap_alloc2_old w _ _)
  have HY := Lib.hid (show w1.heap[w.heap.size + 1]? = some (.cells #[.int .i64 0, .int .i64 0, .int .i64 0, .string { data := #[] }, .slice none 0 0, .int .i32 0, .string { data := #[] }, .slice none 0 0] 36 (0, 0)) from by rw [hw1]; exact heap_alloc2_new w _ _)
  have HW1 := Lib.hid hw1
  have HB1 := Lib.hid hb1
  clear hw1 hb1 hx hc hl hK ht hok
  go_enter Try.func82, Try.ntmps82
  go_wp2_with fail
  rw [← HW1.out]
  refine (HT.out _).mono ?_
  rintro en w2 ⟨rfl, hb2⟩
  have hz := (show w2.heap[w.heap.size]? = some (.cells #[.int .i64 e.op, .int .i64 e.t.form, .int .i64 e.t.num, .string e.t.name, .slice ta 0 tc, .int .i32 e.i, .string e.s, .slice xa K xc] 36 (0, 0)) from by rw [hb2.block _ (Array.getElem?_eq_some_iff.1 HZ.out).1]; exact HZ.out)
  have hy := (show w2.heap[w.heap.size + 1]? = some (.cells #[.int .i64 0, .int .i64 0, .int .i64 0, .string { data := #[] }, .slice none 0 0, .int .i32 0, .string { data := #[] }, .slice none 0 0] 36 (0, 0)) from by rw [hb2.block _ (Array.getElem?_eq_some_iff.1 HY.out).1]; exact HY.out)
  have HB2 := Lib.hid (HB1.out.trans (hb2.mono HB1.out.size))
  have f1 := frozen_of_row w2 w.heap.size 1 _ _ hz
  have f2 := frozen_of_row w2 w.heap.size 2 _ _ hz
  have f3 := frozen_of_row w2 w.heap.size 3 _ _ hz
  have f4 := frozen_of_row w2 w.heap.size 4 _ _ hz
  have f7 := frozen_of_row w2 w.heap.size 7 _ _ hz
  have c1 := rowC hz 1 _
  have c2 := rowC hz 2 _
  have c3 := rowC hz 3 _
  have c4 := rowC hz 4 _
  have c7 := rowC hz 7 _
  have HZ2 := Lib.hid hz
  have HY2 := Lib.hid hy
  clear hz hy hb2
  go_wp2_with fail
  obtain ⟨w4, hw4⟩ : ∃ w4 : World, w4 = (((w2.setCell ⟨w.heap.size, 1, none⟩ (.int .i64 e.t.form)).setCell ⟨w.heap.size, 2, none⟩ (.int .i64 e.t.num)).setCell ⟨w.heap.size, 3, none⟩ (.string e.t.name)).setCell ⟨w.heap.size, 4, none⟩ (.slice none 0 0) := ⟨_, rfl⟩
  rw [← hw4]
  have hz4 : w4.heap[w.heap.size]? = some (.cells #[.int .i64 e.op, .int .i64 e.t.form, .int .i64 e.t.num, .string e.t.name, .slice none 0 0, .int .i32 e.i, .string e.s, .slice xa K xc] 36 (0, 0)) := by
    rw [hw4, heap_setCell_same _ w.heap.size 4 _ _ _ (heap_setCell_same _ w.heap.size 3 _ _ _ (heap_setCell_same _ w.heap.size 2 _ _ _ (heap_setCell_same _ w.heap.size 1 _ _ _ HZ2.out)))]; rfl
  have hy4 : w4.heap[w.heap.size + 1]? = some (.cells #[.int .i64 0, .int .i64 0, .int .i64 0, .string { data := #[] }, .slice none 0 0, .int .i32 0, .string { data := #[] }, .slice none 0 0] 36 (0, 0)) := by
    rw [hw4, Below.heap_setCell _ _ _ _ (by simp), Below.heap_setCell _ _ _ _ (by simp), Below.heap_setCell _ _ _ _ (by simp), Below.heap_setCell _ _ _ _ (by simp)]; exact HY2.out
  have hb4 : Below w.heap.size w w4 := by
    rw [hw4]; exact (((HB2.out.setCell (Nat.le_refl _) _).setCell (Nat.le_refl _) _).setCell (Nat.le_refl _) _).setCell (Nat.le_refl _) _
  have HN4 := (Array.getElem?_eq_some_iff.1 hy4).1
  clear hw4 c1 c2 c3 c4 c7 f1 f2 f3 f4 f7
  refine (HX.out w4 hb4).mono ?_
  rintro en w5 ⟨⟨v, rfl, hv⟩, hb5⟩
  have hz := (show w5.heap[w.heap.size]? = some (.cells #[.int .i64 e.op, .int .i64 e.t.form, .int .i64 e.t.num, .string e.t.name, .slice none 0 0, .int .i32 e.i, .string e.s, .slice xa K xc] 36 (0, 0)) from by rw [hb5.block _ (Array.getElem?_eq_some_iff.1 hz4).1]; exact hz4)
  have hy := (show w5.heap[w.heap.size + 1]? = some (.cells #[.int .i64 0, .int .i64 0, .int .i64 0, .string { data := #[] }, .slice none 0 0, .int .i32 0, .string { data := #[] }, .slice none 0 0] 36 (0, 0)) from by rw [hb5.block _ (Array.getElem?_eq_some_iff.1 hy4).1]; exact hy4)
  have HB5 := Lib.hid (hb4.trans (hb5.mono hb4.size))
  have HV := Lib.hid hv
  obtain ⟨va, vc, rfl, v1, v2, hvx⟩ := hv
  have c0 := rowC hz 0 _
  have c1 := rowC hz 1 _
  have c2 := rowC hz 2 _
  have c3 := rowC hz 3 _
  have c4 := rowC hz 4 _
  have c5 := rowC hz 5 _
  have c6 := rowC hz 6 _
  have c7 := rowC hz 7 _
  have f7 := frozen_of_row w5 w.heap.size 7 _ _ hz
  have g0 := rowC hy 0 _
  have h0 := frozen_of_row w5 (w.heap.size + 1) 0 _ _ hy
  have g1 := rowC hy 1 _
  have h1 := frozen_of_row w5 (w.heap.size + 1) 1 _ _ hy
  have g2 := rowC hy 2 _
  have h2 := frozen_of_row w5 (w.heap.size + 1) 2 _ _ hy
  have g3 := rowC hy 3 _
  have h3 := frozen_of_row w5 (w.heap.size + 1) 3 _ _ hy
  have g4 := rowC hy 4 _
  have h4 := frozen_of_row w5 (w.heap.size + 1) 4 _ _ hy
  have g5 := rowC hy 5 _
  have h5 := frozen_of_row w5 (w.heap.size + 1) 5 _ _ hy
  have g6 := rowC hy 6 _
  have h6 := frozen_of_row w5 (w.heap.size + 1) 6 _ _ hy
  have g7 := rowC hy 7 _
  have h7 := frozen_of_row w5 (w.heap.size + 1) 7 _ _ hy
  have HZ5 := Lib.hid hz
  have HY5 := Lib.hid hy
  have HS := Lib.hid (show ∀ i, i < 8 → (w5.cell? ⟨w.heap.size + 1, i, none⟩).isSome = true from fun i hi => some8 hy i hi)
  clear hz hy hb4 hb5 hz4 hy4 hvx
  have HN4 := Lib.hid (show w.heap.size + 1 < w4.heap.size from HN4)
  go_wp2_with fail
  refine bodyPost_ret (v := .agg #[.int .i64 e.op, .int .i64 e.t.form, .int .i64 e.t.num, .string e.t.name, .slice none 0 0, .int .i32 e.i, .string e.s, .slice va K vc]) (by simp [results, Try.results82, go_sem, HS.out 0, HS.out 1, HS.out 2, HS.out 3, HS.out 4, HS.out 5, HS.out 6, HS.out 7]; try rfl) rfl ⟨⟨.slice none 0 0, .slice va K vc, rfl, ?_⟩, ?_⟩
  · refine ExOkB.imp (F := New w4.heap.size) (w := w5) (fun b hb => Nat.le_trans (by have := HN4.out; omega) hb) ?_ _ _ _ (clone_ok HV.out HK.out HNN.out HTK.out)
    have hn := HN4.out
    repeat (refine Keeps.trans ?_ (Keeps.set _ _ _ (fun h => by have h : w4.heap.size ≤ _ := h; simp at h; omega)))
    exact fun b o u _ h => h
  · repeat (refine Below.setCell ?_ (by simp) _)
    exact HB5.out
end Go.Proofs.Ytipcnkgojonmjaa
