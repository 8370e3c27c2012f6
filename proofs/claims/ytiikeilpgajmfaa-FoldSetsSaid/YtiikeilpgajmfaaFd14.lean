/- Fold: the law's told: both fold alike. (Printed by gen_fd14.py.) -/
import Derived.Test.YtiikeilpgajmfaaFd13
namespace Go.Proofs.Ytiikeilpgajmfaa
open Go.RowKit Go.Waf
set_option maxRecDepth 100000
set_option linter.unusedVariables false
set_option linter.unusedSimpArgs false

theorem row8 {w : World} {b : Nat} {T : TypeId} {A : Array Value} (h : w.heap[b]? = some (.cells A T (0, 0))) (j : Nat) (u : Value) (hu : A[j]? = some u) : w.cell? ⟨b, j, none⟩ = some u := (cell_of_row w b j _ _ _ h).trans hu
set_option maxHeartbeats 3200000 in
theorem told_raw (w : World) (op f n i op2 f2 n2 i2 c : Int) (nm s nm2 s2 : ByteArray) (tk tc k xc tk2 tc2 k2 xc2 : Nat) (ta xa ta2 xa2 : Option Addr) (r : Bool)
    (F1 : ∀ W, Below w.heap.size w W → Calls Try.prog 13 #[.agg #[.int .i64 op, .int .i64 f, .int .i64 n, .string nm, .slice ta tk tc, .int .i32 i, .string s, .slice xa k xc]] W fun en w' => en = .returned (.tuple #[.agg #[.int .i64 op2, .int .i64 f2, .int .i64 n2, .string nm2, .slice ta2 tk2 tc2, .int .i32 i2, .string s2, .slice xa2 k2 xc2], .int .i64 c]) ∧ Below W.heap.size W w')
    (F2 : ∀ W, Below w.heap.size w W → Calls Try.prog 17 #[.agg #[.int .i64 op, .int .i64 f, .int .i64 n, .string nm, .slice ta tk tc, .int .i32 i, .string s, .slice xa k xc]] W fun en w' => en = .returned (.tuple #[.agg #[.int .i64 op2, .int .i64 f2, .int .i64 n2, .string nm2, .slice ta2 tk2 tc2, .int .i32 i2, .string s2, .slice xa2 k2 xc2], .int .i64 c]) ∧ Below W.heap.size W w')
    (SS : ∀ W, Below w.heap.size w W → Calls Try.prog 11 #[.agg #[.int .i64 op2, .int .i64 f2, .int .i64 n2, .string nm2, .slice ta2 tk2 tc2, .int .i32 i2, .string s2, .slice xa2 k2 xc2], .agg #[.int .i64 op2, .int .i64 f2, .int .i64 n2, .string nm2, .slice ta2 tk2 tc2, .int .i32 i2, .string s2, .slice xa2 k2 xc2]] W fun en w' => en = .returned (.bool true) ∧ Below W.heap.size W w')
    (I1 : ∀ W, Below w.heap.size w W → Calls Try.prog 14 #[.agg #[.int .i64 op, .int .i64 f, .int .i64 n, .string nm, .slice ta tk tc, .int .i32 i, .string s, .slice xa k xc]] W fun en w' => en = .returned (.bool r) ∧ Below W.heap.size W w')
    (I2 : ∀ W, Below w.heap.size w W → Calls Try.prog 18 #[.agg #[.int .i64 op, .int .i64 f, .int .i64 n, .string nm, .slice ta tk tc, .int .i32 i, .string s, .slice xa k xc]] W fun en w' => en = .returned (.bool r) ∧ Below W.heap.size W w') :
    Calls Try.prog 8 #[.agg #[.int .i64 op, .int .i64 f, .int .i64 n, .string nm, .slice ta tk tc, .int .i32 i, .string s, .slice xa k xc]] w fun en w' => en = .returned (.bool true) ∧ Below w.heap.size w w' := by
  obtain ⟨w1, hw1⟩ : ∃ w1 : World, w1 = w.alloc (.cells #[.int .i64 op, .int .i64 f, .int .i64 n, .string nm, .slice ta tk tc, .int .i32 i, .string s, .slice xa k xc] 27) := ⟨_, rfl⟩
  have hb01 : Below w.heap.size w w1 := by rw [hw1]; exact (Below.refl _ _).alloc (Nat.le_refl _) _
  have hs1 : w1.heap.size = w.heap.size + 1 := by rw [hw1]; simp
  have HE := Lib.hid (show w1.heap[w.heap.size]? = some (.cells #[.int .i64 op, .int .i64 f, .int .i64 n, .string nm, .slice ta tk tc, .int .i32 i, .string s, .slice xa k xc] 27 (0, 0)) from by rw [hw1]; exact heap_alloc_new w _)
  have HB01 := Lib.hid hb01
  have HS1 := Lib.hid hs1
  have HW1 := Lib.hid hw1
  have HF1 := Lib.hid F1
  have HF2 := Lib.hid F2
  have HSS := Lib.hid SS
  have HI1 := Lib.hid I1
  have HI2 := Lib.hid I2
  clear F1 F2 SS I1 I2 hb01 hw1 hs1
  go_enter Try.func8, Try.ntmps8
  go_wp2_with fail
  rw [← HW1.out]
  refine (HF1.out w1 HB01.out).mono ?_
  rintro en w2 ⟨rfl, hb2⟩
  obtain ⟨w2a, hw2⟩ : ∃ w2a : World, w2a = w2.alloc (.cells #[.int .i64 op2, .int .i64 f2, .int .i64 n2, .string nm2, .slice ta2 tk2 tc2, .int .i32 i2, .string s2, .slice xa2 k2 xc2] 27) := ⟨_, rfl⟩
  have hb2a : Below w2.heap.size w2 w2a := by rw [hw2]; exact (Below.refl _ _).alloc (Nat.le_refl _) _
  have hs2 : w2a.heap.size = w2.heap.size + 1 := by rw [hw2]; simp
  have HE2 := Lib.hid (show w2a.heap[w2.heap.size]? = some (.cells #[.int .i64 op2, .int .i64 f2, .int .i64 n2, .string nm2, .slice ta2 tk2 tc2, .int .i32 i2, .string s2, .slice xa2 k2 xc2] 27 (0, 0)) from by rw [hw2]; exact heap_alloc_new w2 _)
  have hb12 : Below w1.heap.size w1 w2a := hb2.trans (hb2a.mono hb2.size)
  have hr := HE.out
  rw [← hb12.block _ (by rw [HS1.out]; omega)] at hr
  have e0 : (w2.alloc (.cells #[.int .i64 op2, .int .i64 f2, .int .i64 n2, .string nm2, .slice ta2 tk2 tc2, .int .i32 i2, .string s2, .slice xa2 k2 xc2] 27)).cell? ⟨w.heap.size, 0, none⟩ = some (.int .i64 op) := by rw [← hw2]; exact row8 hr 0 _ rfl
  have e1 : (w2.alloc (.cells #[.int .i64 op2, .int .i64 f2, .int .i64 n2, .string nm2, .slice ta2 tk2 tc2, .int .i32 i2, .string s2, .slice xa2 k2 xc2] 27)).cell? ⟨w.heap.size, 1, none⟩ = some (.int .i64 f) := by rw [← hw2]; exact row8 hr 1 _ rfl
  have e2 : (w2.alloc (.cells #[.int .i64 op2, .int .i64 f2, .int .i64 n2, .string nm2, .slice ta2 tk2 tc2, .int .i32 i2, .string s2, .slice xa2 k2 xc2] 27)).cell? ⟨w.heap.size, 2, none⟩ = some (.int .i64 n) := by rw [← hw2]; exact row8 hr 2 _ rfl
  have e3 : (w2.alloc (.cells #[.int .i64 op2, .int .i64 f2, .int .i64 n2, .string nm2, .slice ta2 tk2 tc2, .int .i32 i2, .string s2, .slice xa2 k2 xc2] 27)).cell? ⟨w.heap.size, 3, none⟩ = some (.string nm) := by rw [← hw2]; exact row8 hr 3 _ rfl
  have e4 : (w2.alloc (.cells #[.int .i64 op2, .int .i64 f2, .int .i64 n2, .string nm2, .slice ta2 tk2 tc2, .int .i32 i2, .string s2, .slice xa2 k2 xc2] 27)).cell? ⟨w.heap.size, 4, none⟩ = some (.slice ta tk tc) := by rw [← hw2]; exact row8 hr 4 _ rfl
  have e5 : (w2.alloc (.cells #[.int .i64 op2, .int .i64 f2, .int .i64 n2, .string nm2, .slice ta2 tk2 tc2, .int .i32 i2, .string s2, .slice xa2 k2 xc2] 27)).cell? ⟨w.heap.size, 5, none⟩ = some (.int .i32 i) := by rw [← hw2]; exact row8 hr 5 _ rfl
  have e6 : (w2.alloc (.cells #[.int .i64 op2, .int .i64 f2, .int .i64 n2, .string nm2, .slice ta2 tk2 tc2, .int .i32 i2, .string s2, .slice xa2 k2 xc2] 27)).cell? ⟨w.heap.size, 6, none⟩ = some (.string s) := by rw [← hw2]; exact row8 hr 6 _ rfl
  have e7 : (w2.alloc (.cells #[.int .i64 op2, .int .i64 f2, .int .i64 n2, .string nm2, .slice ta2 tk2 tc2, .int .i32 i2, .string s2, .slice xa2 k2 xc2] 27)).cell? ⟨w.heap.size, 7, none⟩ = some (.slice xa k xc) := by rw [← hw2]; exact row8 hr 7 _ rfl
  have HB12 := Lib.hid hb12
  have HS2 := Lib.hid hs2
  have HW2 := Lib.hid hw2
  have hz2 := hb2.size
  clear hb2 hb2a hw2 hb12 hr hs2
  go_wp2_with fail
  rw [← HW2.out]
  have hb02 : Below w.heap.size w w2a := HB01.out.trans (HB12.out.mono (by rw [HS1.out]; omega))
  refine (HF2.out w2a hb02).mono ?_
  rintro en w3 ⟨rfl, hb3⟩
  obtain ⟨w3a, hw3⟩ : ∃ w3a : World, w3a = w3.alloc (.cells #[.int .i64 op2, .int .i64 f2, .int .i64 n2, .string nm2, .slice ta2 tk2 tc2, .int .i32 i2, .string s2, .slice xa2 k2 xc2] 27) := ⟨_, rfl⟩
  have hb3a : Below w3.heap.size w3 w3a := by rw [hw3]; exact (Below.refl _ _).alloc (Nat.le_refl _) _
  have HE3 := Lib.hid (show w3a.heap[w3.heap.size]? = some (.cells #[.int .i64 op2, .int .i64 f2, .int .i64 n2, .string nm2, .slice ta2 tk2 tc2, .int .i32 i2, .string s2, .slice xa2 k2 xc2] 27 (0, 0)) from by rw [hw3]; exact heap_alloc_new w3 _)
  obtain ⟨w4, hw4⟩ : ∃ w4 : World, w4 = w3a.drew := ⟨_, rfl⟩
  have hb34 : Below w3a.heap.size w3a w4 := by rw [hw4]; exact below_drewN (Below.refl _ _) 1
  have hb23 : Below w2a.heap.size w2a w3a := hb3.trans (hb3a.mono hb3.size)
  have r1 := HE.out
  rw [← HB12.out.block _ (by rw [HS1.out]; omega)] at r1
  rw [← hb23.block _ (by have := HB12.out.size; have := HS1.out; omega)] at r1
  have r2 := HE2.out
  rw [← hb23.block _ (by rw [HS2.out]; omega)] at r2
  have hsz : w3a.heap.size = w3.heap.size + 1 := by rw [hw3]; simp
  have hz3 := hb3.size
  have HSF := Lib.hid (show ∀ V : World, Below w3a.heap.size w3a V → (fun W : World => (W.cell? ⟨w.heap.size, 0, none⟩ = some (.int .i64 op) ∧ W.cell? ⟨w.heap.size, 1, none⟩ = some (.int .i64 f) ∧ W.cell? ⟨w.heap.size, 2, none⟩ = some (.int .i64 n) ∧ W.cell? ⟨w.heap.size, 3, none⟩ = some (.string nm) ∧ W.cell? ⟨w.heap.size, 4, none⟩ = some (.slice ta tk tc) ∧ W.cell? ⟨w.heap.size, 5, none⟩ = some (.int .i32 i) ∧ W.cell? ⟨w.heap.size, 6, none⟩ = some (.string s) ∧ W.cell? ⟨w.heap.size, 7, none⟩ = some (.slice xa k xc)) ∧ (W.cell? ⟨w2.heap.size, 0, none⟩ = some (.int .i64 op2) ∧ W.cell? ⟨w2.heap.size, 1, none⟩ = some (.int .i64 f2) ∧ W.cell? ⟨w2.heap.size, 2, none⟩ = some (.int .i64 n2) ∧ W.cell? ⟨w2.heap.size, 3, none⟩ = some (.string nm2) ∧ W.cell? ⟨w2.heap.size, 4, none⟩ = some (.slice ta2 tk2 tc2) ∧ W.cell? ⟨w2.heap.size, 5, none⟩ = some (.int .i32 i2) ∧ W.cell? ⟨w2.heap.size, 6, none⟩ = some (.string s2) ∧ W.cell? ⟨w2.heap.size, 7, none⟩ = some (.slice xa2 k2 xc2)) ∧ W.cell? ⟨w3.heap.size, 0, none⟩ = some (.int .i64 op2) ∧ W.cell? ⟨w3.heap.size, 1, none⟩ = some (.int .i64 f2) ∧ W.cell? ⟨w3.heap.size, 2, none⟩ = some (.int .i64 n2) ∧ W.cell? ⟨w3.heap.size, 3, none⟩ = some (.string nm2) ∧ W.cell? ⟨w3.heap.size, 4, none⟩ = some (.slice ta2 tk2 tc2) ∧ W.cell? ⟨w3.heap.size, 5, none⟩ = some (.int .i32 i2) ∧ W.cell? ⟨w3.heap.size, 6, none⟩ = some (.string s2) ∧ W.cell? ⟨w3.heap.size, 7, none⟩ = some (.slice xa2 k2 xc2)) V from fun V hv => by
    have v1 := r1
    rw [← hv.block _ (by have := HB12.out.size; have := HS1.out; have := HS2.out; omega)] at v1
    have v2 := r2
    rw [← hv.block _ (by have := HS2.out; omega)] at v2
    have v3 := HE3.out
    rw [← hv.block _ (by omega)] at v3
    exact ⟨⟨row8 v1 0 _ rfl, row8 v1 1 _ rfl, row8 v1 2 _ rfl, row8 v1 3 _ rfl, row8 v1 4 _ rfl, row8 v1 5 _ rfl, row8 v1 6 _ rfl, row8 v1 7 _ rfl⟩, ⟨row8 v2 0 _ rfl, row8 v2 1 _ rfl, row8 v2 2 _ rfl, row8 v2 3 _ rfl, row8 v2 4 _ rfl, row8 v2 5 _ rfl, row8 v2 6 _ rfl, row8 v2 7 _ rfl⟩, row8 v3 0 _ rfl, row8 v3 1 _ rfl, row8 v3 2 _ rfl, row8 v3 3 _ rfl, row8 v3 4 _ rfl, row8 v3 5 _ rfl, row8 v3 6 _ rfl, row8 v3 7 _ rfl⟩)
  have HS := Lib.hid (show (fun W : World => (W.cell? ⟨w.heap.size, 0, none⟩ = some (.int .i64 op) ∧ W.cell? ⟨w.heap.size, 1, none⟩ = some (.int .i64 f) ∧ W.cell? ⟨w.heap.size, 2, none⟩ = some (.int .i64 n) ∧ W.cell? ⟨w.heap.size, 3, none⟩ = some (.string nm) ∧ W.cell? ⟨w.heap.size, 4, none⟩ = some (.slice ta tk tc) ∧ W.cell? ⟨w.heap.size, 5, none⟩ = some (.int .i32 i) ∧ W.cell? ⟨w.heap.size, 6, none⟩ = some (.string s) ∧ W.cell? ⟨w.heap.size, 7, none⟩ = some (.slice xa k xc)) ∧ (W.cell? ⟨w2.heap.size, 0, none⟩ = some (.int .i64 op2) ∧ W.cell? ⟨w2.heap.size, 1, none⟩ = some (.int .i64 f2) ∧ W.cell? ⟨w2.heap.size, 2, none⟩ = some (.int .i64 n2) ∧ W.cell? ⟨w2.heap.size, 3, none⟩ = some (.string nm2) ∧ W.cell? ⟨w2.heap.size, 4, none⟩ = some (.slice ta2 tk2 tc2) ∧ W.cell? ⟨w2.heap.size, 5, none⟩ = some (.int .i32 i2) ∧ W.cell? ⟨w2.heap.size, 6, none⟩ = some (.string s2) ∧ W.cell? ⟨w2.heap.size, 7, none⟩ = some (.slice xa2 k2 xc2)) ∧ W.cell? ⟨w3.heap.size, 0, none⟩ = some (.int .i64 op2) ∧ W.cell? ⟨w3.heap.size, 1, none⟩ = some (.int .i64 f2) ∧ W.cell? ⟨w3.heap.size, 2, none⟩ = some (.int .i64 n2) ∧ W.cell? ⟨w3.heap.size, 3, none⟩ = some (.string nm2) ∧ W.cell? ⟨w3.heap.size, 4, none⟩ = some (.slice ta2 tk2 tc2) ∧ W.cell? ⟨w3.heap.size, 5, none⟩ = some (.int .i32 i2) ∧ W.cell? ⟨w3.heap.size, 6, none⟩ = some (.string s2) ∧ W.cell? ⟨w3.heap.size, 7, none⟩ = some (.slice xa2 k2 xc2)) w4 from HSF.out w4 hb34)
  have HB3 := Lib.hid (show Below w.heap.size w w3a from hb02.trans (hb23.mono hb02.size))
  have HSZ := Lib.hid (show w.heap.size ≤ w3a.heap.size from by have := (hb02.trans (hb23.mono hb02.size)).size; omega)
  have HB4 := Lib.hid hb34
  have HW3 := Lib.hid hw3
  have HW4 := Lib.hid hw4
  clear hb3 hb3a hb34 hb23 r1 r2 hw3 hw4 hb02 e0 e1 e2 e3 e4 e5 e6 e7
  go_wp2_with fail
  rw [← HW3.out]
  refine wp_region_till 15 (fun W : World => (W.cell? ⟨w.heap.size, 0, none⟩ = some (.int .i64 op) ∧ W.cell? ⟨w.heap.size, 1, none⟩ = some (.int .i64 f) ∧ W.cell? ⟨w.heap.size, 2, none⟩ = some (.int .i64 n) ∧ W.cell? ⟨w.heap.size, 3, none⟩ = some (.string nm) ∧ W.cell? ⟨w.heap.size, 4, none⟩ = some (.slice ta tk tc) ∧ W.cell? ⟨w.heap.size, 5, none⟩ = some (.int .i32 i) ∧ W.cell? ⟨w.heap.size, 6, none⟩ = some (.string s) ∧ W.cell? ⟨w.heap.size, 7, none⟩ = some (.slice xa k xc)) ∧ (W.cell? ⟨w2.heap.size, 0, none⟩ = some (.int .i64 op2) ∧ W.cell? ⟨w2.heap.size, 1, none⟩ = some (.int .i64 f2) ∧ W.cell? ⟨w2.heap.size, 2, none⟩ = some (.int .i64 n2) ∧ W.cell? ⟨w2.heap.size, 3, none⟩ = some (.string nm2) ∧ W.cell? ⟨w2.heap.size, 4, none⟩ = some (.slice ta2 tk2 tc2) ∧ W.cell? ⟨w2.heap.size, 5, none⟩ = some (.int .i32 i2) ∧ W.cell? ⟨w2.heap.size, 6, none⟩ = some (.string s2) ∧ W.cell? ⟨w2.heap.size, 7, none⟩ = some (.slice xa2 k2 xc2)) ∧ W.cell? ⟨w3.heap.size, 0, none⟩ = some (.int .i64 op2) ∧ W.cell? ⟨w3.heap.size, 1, none⟩ = some (.int .i64 f2) ∧ W.cell? ⟨w3.heap.size, 2, none⟩ = some (.int .i64 n2) ∧ W.cell? ⟨w3.heap.size, 3, none⟩ = some (.string nm2) ∧ W.cell? ⟨w3.heap.size, 4, none⟩ = some (.slice ta2 tk2 tc2) ∧ W.cell? ⟨w3.heap.size, 5, none⟩ = some (.int .i32 i2) ∧ W.cell? ⟨w3.heap.size, 6, none⟩ = some (.string s2) ∧ W.cell? ⟨w3.heap.size, 7, none⟩ = some (.slice xa2 k2 xc2)) (by as_aux_lemma => kernel_rfl) ?_
  rw [← HW4.out]
  (refine wpAnyT_take (i := 0) (oi := ?_) (v := ?_) ?_ (by as_aux_lemma => kernel_rfl) (by as_aux_lemma => kernel_rfl) (by as_aux_lemma => kernel_rfl) (by as_aux_lemma => kernel_rfl) ?_ (Or.inl ⟨?_, ?_⟩) HS.out ?_; rotate_left 2; (focus (simp only [List.getElem?_toArray, List.getElem?_cons_succ, List.getElem?_cons_zero] <;> rfl)); (focus exact (fun _ _ _ h => h)); (focus rfl); (focus (intro w hSw; (try dsimp only at hSw); go_simp; try (with_reducible rfl))))
  (try simp only [Act.put, List.setIfInBounds_toArray, List.set_cons_zero, List.set_cons_succ])
  (refine wpAnyT_take (i := 1) (oi := ?_) (v := ?_) ?_ (by as_aux_lemma => kernel_rfl) (by as_aux_lemma => kernel_rfl) (by as_aux_lemma => kernel_rfl) (by as_aux_lemma => kernel_rfl) ?_ (Or.inl ⟨?_, ?_⟩) HS.out ?_; rotate_left 2; (focus (simp only [List.getElem?_toArray, List.getElem?_cons_succ, List.getElem?_cons_zero] <;> rfl)); (focus exact (fun _ _ _ h => h)); (focus rfl); (focus (intro w hSw; (try dsimp only at hSw); go_simp; try (with_reducible rfl))))
  (try simp only [Act.put, List.setIfInBounds_toArray, List.set_cons_zero, List.set_cons_succ])
  (refine wpAnyT_take (i := 2) (oi := ?_) (v := ?_) ?_ (by as_aux_lemma => kernel_rfl) (by as_aux_lemma => kernel_rfl) (by as_aux_lemma => kernel_rfl) (by as_aux_lemma => kernel_rfl) ?_ (Or.inl ⟨?_, ?_⟩) HS.out ?_; rotate_left 2; (focus (simp only [List.getElem?_toArray, List.getElem?_cons_succ, List.getElem?_cons_zero] <;> rfl)); (focus exact (fun _ _ _ h => h)); (focus rfl); (focus (intro w hSw; (try dsimp only at hSw); go_simp; try (with_reducible rfl))))
  (try simp only [Act.put, List.setIfInBounds_toArray, List.set_cons_zero, List.set_cons_succ])
  (refine wpAnyT_take (i := 3) (oi := ?_) (v := ?_) ?_ (by as_aux_lemma => kernel_rfl) (by as_aux_lemma => kernel_rfl) (by as_aux_lemma => kernel_rfl) (by as_aux_lemma => kernel_rfl) ?_ (Or.inl ⟨?_, ?_⟩) HS.out ?_; rotate_left 2; (focus (simp only [List.getElem?_toArray, List.getElem?_cons_succ, List.getElem?_cons_zero] <;> rfl)); (focus exact (fun _ _ _ h => h)); (focus rfl); (focus (intro w hSw; (try dsimp only at hSw); go_simp; try (with_reducible rfl))))
  (try simp only [Act.put, List.setIfInBounds_toArray, List.set_cons_zero, List.set_cons_succ])
  (refine wpAnyT_take (i := 4) (oi := ?_) (v := ?_) ?_ (by as_aux_lemma => kernel_rfl) (by as_aux_lemma => kernel_rfl) (by as_aux_lemma => kernel_rfl) (by as_aux_lemma => kernel_rfl) ?_ (Or.inl ⟨?_, ?_⟩) HS.out ?_; rotate_left 2; (focus (simp only [List.getElem?_toArray, List.getElem?_cons_succ, List.getElem?_cons_zero] <;> rfl)); (focus exact (fun _ _ _ h => h)); (focus rfl); (focus (intro w hSw; (try dsimp only at hSw); go_simp; try (with_reducible rfl))))
  (try simp only [Act.put, List.setIfInBounds_toArray, List.set_cons_zero, List.set_cons_succ])
  (refine wpAnyT_take (i := 5) (oi := ?_) (v := ?_) ?_ (by as_aux_lemma => kernel_rfl) (by as_aux_lemma => kernel_rfl) (by as_aux_lemma => kernel_rfl) (by as_aux_lemma => kernel_rfl) ?_ (Or.inl ⟨?_, ?_⟩) HS.out ?_; rotate_left 2; (focus (simp only [List.getElem?_toArray, List.getElem?_cons_succ, List.getElem?_cons_zero] <;> rfl)); (focus exact (fun _ _ _ h => h)); (focus rfl); (focus (intro w hSw; (try dsimp only at hSw); go_simp; try (with_reducible rfl))))
  (try simp only [Act.put, List.setIfInBounds_toArray, List.set_cons_zero, List.set_cons_succ])
  (refine wpAnyT_one (i := 6) (oi := ?_) ?_ (by as_aux_lemma => kernel_rfl) (fun K hK => ?_); rotate_left; (focus (simp only [List.getElem?_toArray, List.getElem?_cons_succ, List.getElem?_cons_zero] <;> rfl)))
  go_simp
  refine (HSS.out w4 (HB3.out.trans (HB4.out.mono HSZ.out))).mono ?_
  rintro en w5 ⟨rfl, hbn⟩
  have hbx : Below w3a.heap.size w3a w5 := HB4.out.trans (hbn.mono HB4.out.size)
  have HW5 := Lib.hid (show (fun W : World => (W.cell? ⟨w.heap.size, 0, none⟩ = some (.int .i64 op) ∧ W.cell? ⟨w.heap.size, 1, none⟩ = some (.int .i64 f) ∧ W.cell? ⟨w.heap.size, 2, none⟩ = some (.int .i64 n) ∧ W.cell? ⟨w.heap.size, 3, none⟩ = some (.string nm) ∧ W.cell? ⟨w.heap.size, 4, none⟩ = some (.slice ta tk tc) ∧ W.cell? ⟨w.heap.size, 5, none⟩ = some (.int .i32 i) ∧ W.cell? ⟨w.heap.size, 6, none⟩ = some (.string s) ∧ W.cell? ⟨w.heap.size, 7, none⟩ = some (.slice xa k xc)) ∧ (W.cell? ⟨w2.heap.size, 0, none⟩ = some (.int .i64 op2) ∧ W.cell? ⟨w2.heap.size, 1, none⟩ = some (.int .i64 f2) ∧ W.cell? ⟨w2.heap.size, 2, none⟩ = some (.int .i64 n2) ∧ W.cell? ⟨w2.heap.size, 3, none⟩ = some (.string nm2) ∧ W.cell? ⟨w2.heap.size, 4, none⟩ = some (.slice ta2 tk2 tc2) ∧ W.cell? ⟨w2.heap.size, 5, none⟩ = some (.int .i32 i2) ∧ W.cell? ⟨w2.heap.size, 6, none⟩ = some (.string s2) ∧ W.cell? ⟨w2.heap.size, 7, none⟩ = some (.slice xa2 k2 xc2)) ∧ W.cell? ⟨w3.heap.size, 0, none⟩ = some (.int .i64 op2) ∧ W.cell? ⟨w3.heap.size, 1, none⟩ = some (.int .i64 f2) ∧ W.cell? ⟨w3.heap.size, 2, none⟩ = some (.int .i64 n2) ∧ W.cell? ⟨w3.heap.size, 3, none⟩ = some (.string nm2) ∧ W.cell? ⟨w3.heap.size, 4, none⟩ = some (.slice ta2 tk2 tc2) ∧ W.cell? ⟨w3.heap.size, 5, none⟩ = some (.int .i32 i2) ∧ W.cell? ⟨w3.heap.size, 6, none⟩ = some (.string s2) ∧ W.cell? ⟨w3.heap.size, 7, none⟩ = some (.slice xa2 k2 xc2)) w5 from HSF.out w5 hbx)
  have HB5 := Lib.hid hbx
  refine hK.out _ _ HW5.out ?_
  clear hK K hbn hbx
  (try simp only [Act.put, List.setIfInBounds_toArray, List.set_cons_zero, List.set_cons_succ])
  (refine wpAnyT_take (i := 7) (oi := ?_) (v := ?_) ?_ (by as_aux_lemma => kernel_rfl) (by as_aux_lemma => kernel_rfl) (by as_aux_lemma => kernel_rfl) (by as_aux_lemma => kernel_rfl) ?_ (Or.inl ⟨?_, ?_⟩) HW5.out ?_; rotate_left 2; (focus (simp only [List.getElem?_toArray, List.getElem?_cons_succ, List.getElem?_cons_zero] <;> rfl)); (focus exact (fun _ _ _ h => h)); (focus rfl); (focus (intro w hSw; (try dsimp only at hSw); go_simp; try (with_reducible rfl))))
  (try simp only [Act.put, List.setIfInBounds_toArray, List.set_cons_zero, List.set_cons_succ])
  (refine wpAnyT_take (i := 8) (oi := ?_) (v := ?_) ?_ (by as_aux_lemma => kernel_rfl) (by as_aux_lemma => kernel_rfl) (by as_aux_lemma => kernel_rfl) (by as_aux_lemma => kernel_rfl) ?_ (Or.inl ⟨?_, ?_⟩) HW5.out ?_; rotate_left 2; (focus (simp only [List.getElem?_toArray, List.getElem?_cons_succ, List.getElem?_cons_zero] <;> rfl)); (focus exact (fun _ _ _ h => h)); (focus rfl); (focus (intro w hSw; (try dsimp only at hSw); go_simp; try (with_reducible rfl))))
  (try simp only [Act.put, List.setIfInBounds_toArray, List.set_cons_zero, List.set_cons_succ])
  (refine wpAnyT_take (i := 9) (oi := ?_) (v := ?_) ?_ (by as_aux_lemma => kernel_rfl) (by as_aux_lemma => kernel_rfl) (by as_aux_lemma => kernel_rfl) (by as_aux_lemma => kernel_rfl) ?_ (Or.inl ⟨?_, ?_⟩) HW5.out ?_; rotate_left 2; (focus (simp only [List.getElem?_toArray, List.getElem?_cons_succ, List.getElem?_cons_zero] <;> rfl)); (focus exact (fun _ _ _ h => h)); (focus rfl); (focus (intro w hSw; (try dsimp only at hSw); go_simp; try (with_reducible rfl))))
  (try simp only [Act.put, List.setIfInBounds_toArray, List.set_cons_zero, List.set_cons_succ])
  (refine wpAnyT_take (i := 11) (oi := ?_) (v := ?_) ?_ (by as_aux_lemma => kernel_rfl) (by as_aux_lemma => kernel_rfl) (by as_aux_lemma => kernel_rfl) (by as_aux_lemma => kernel_rfl) ?_ (Or.inl ⟨?_, ?_⟩) HW5.out ?_; rotate_left 2; (focus (simp only [List.getElem?_toArray, List.getElem?_cons_succ, List.getElem?_cons_zero] <;> rfl)); (focus exact (fun _ _ _ h => h)); (focus rfl); (focus (intro w hSw; (try dsimp only at hSw); go_simp; try (with_reducible rfl))))
  (try simp only [Act.put, List.setIfInBounds_toArray, List.set_cons_zero, List.set_cons_succ])
  (refine wpAnyT_one (i := 10) (oi := ?_) ?_ (by as_aux_lemma => kernel_rfl) (fun K hK => ?_); rotate_left; (focus (simp only [List.getElem?_toArray, List.getElem?_cons_succ, List.getElem?_cons_zero] <;> rfl)))
  go_simp
  refine (HI1.out w5 (HB3.out.trans (HB5.out.mono HSZ.out))).mono ?_
  rintro en w6 ⟨rfl, hbn⟩
  have hbx : Below w3a.heap.size w3a w6 := HB5.out.trans (hbn.mono HB5.out.size)
  have HW6 := Lib.hid (show (fun W : World => (W.cell? ⟨w.heap.size, 0, none⟩ = some (.int .i64 op) ∧ W.cell? ⟨w.heap.size, 1, none⟩ = some (.int .i64 f) ∧ W.cell? ⟨w.heap.size, 2, none⟩ = some (.int .i64 n) ∧ W.cell? ⟨w.heap.size, 3, none⟩ = some (.string nm) ∧ W.cell? ⟨w.heap.size, 4, none⟩ = some (.slice ta tk tc) ∧ W.cell? ⟨w.heap.size, 5, none⟩ = some (.int .i32 i) ∧ W.cell? ⟨w.heap.size, 6, none⟩ = some (.string s) ∧ W.cell? ⟨w.heap.size, 7, none⟩ = some (.slice xa k xc)) ∧ (W.cell? ⟨w2.heap.size, 0, none⟩ = some (.int .i64 op2) ∧ W.cell? ⟨w2.heap.size, 1, none⟩ = some (.int .i64 f2) ∧ W.cell? ⟨w2.heap.size, 2, none⟩ = some (.int .i64 n2) ∧ W.cell? ⟨w2.heap.size, 3, none⟩ = some (.string nm2) ∧ W.cell? ⟨w2.heap.size, 4, none⟩ = some (.slice ta2 tk2 tc2) ∧ W.cell? ⟨w2.heap.size, 5, none⟩ = some (.int .i32 i2) ∧ W.cell? ⟨w2.heap.size, 6, none⟩ = some (.string s2) ∧ W.cell? ⟨w2.heap.size, 7, none⟩ = some (.slice xa2 k2 xc2)) ∧ W.cell? ⟨w3.heap.size, 0, none⟩ = some (.int .i64 op2) ∧ W.cell? ⟨w3.heap.size, 1, none⟩ = some (.int .i64 f2) ∧ W.cell? ⟨w3.heap.size, 2, none⟩ = some (.int .i64 n2) ∧ W.cell? ⟨w3.heap.size, 3, none⟩ = some (.string nm2) ∧ W.cell? ⟨w3.heap.size, 4, none⟩ = some (.slice ta2 tk2 tc2) ∧ W.cell? ⟨w3.heap.size, 5, none⟩ = some (.int .i32 i2) ∧ W.cell? ⟨w3.heap.size, 6, none⟩ = some (.string s2) ∧ W.cell? ⟨w3.heap.size, 7, none⟩ = some (.slice xa2 k2 xc2)) w6 from HSF.out w6 hbx)
  have HB6 := Lib.hid hbx
  refine hK.out _ _ HW6.out ?_
  clear hK K hbn hbx
  (try simp only [Act.put, List.setIfInBounds_toArray, List.set_cons_zero, List.set_cons_succ])
  (refine wpAnyT_one (i := 12) (oi := ?_) ?_ (by as_aux_lemma => kernel_rfl) (fun K hK => ?_); rotate_left; (focus (simp only [List.getElem?_toArray, List.getElem?_cons_succ, List.getElem?_cons_zero] <;> rfl)))
  go_simp
  refine (HI2.out w6 (HB3.out.trans (HB6.out.mono HSZ.out))).mono ?_
  rintro en w7 ⟨rfl, hbn⟩
  have hbx : Below w3a.heap.size w3a w7 := HB6.out.trans (hbn.mono HB6.out.size)
  have HW7 := Lib.hid (show (fun W : World => (W.cell? ⟨w.heap.size, 0, none⟩ = some (.int .i64 op) ∧ W.cell? ⟨w.heap.size, 1, none⟩ = some (.int .i64 f) ∧ W.cell? ⟨w.heap.size, 2, none⟩ = some (.int .i64 n) ∧ W.cell? ⟨w.heap.size, 3, none⟩ = some (.string nm) ∧ W.cell? ⟨w.heap.size, 4, none⟩ = some (.slice ta tk tc) ∧ W.cell? ⟨w.heap.size, 5, none⟩ = some (.int .i32 i) ∧ W.cell? ⟨w.heap.size, 6, none⟩ = some (.string s) ∧ W.cell? ⟨w.heap.size, 7, none⟩ = some (.slice xa k xc)) ∧ (W.cell? ⟨w2.heap.size, 0, none⟩ = some (.int .i64 op2) ∧ W.cell? ⟨w2.heap.size, 1, none⟩ = some (.int .i64 f2) ∧ W.cell? ⟨w2.heap.size, 2, none⟩ = some (.int .i64 n2) ∧ W.cell? ⟨w2.heap.size, 3, none⟩ = some (.string nm2) ∧ W.cell? ⟨w2.heap.size, 4, none⟩ = some (.slice ta2 tk2 tc2) ∧ W.cell? ⟨w2.heap.size, 5, none⟩ = some (.int .i32 i2) ∧ W.cell? ⟨w2.heap.size, 6, none⟩ = some (.string s2) ∧ W.cell? ⟨w2.heap.size, 7, none⟩ = some (.slice xa2 k2 xc2)) ∧ W.cell? ⟨w3.heap.size, 0, none⟩ = some (.int .i64 op2) ∧ W.cell? ⟨w3.heap.size, 1, none⟩ = some (.int .i64 f2) ∧ W.cell? ⟨w3.heap.size, 2, none⟩ = some (.int .i64 n2) ∧ W.cell? ⟨w3.heap.size, 3, none⟩ = some (.string nm2) ∧ W.cell? ⟨w3.heap.size, 4, none⟩ = some (.slice ta2 tk2 tc2) ∧ W.cell? ⟨w3.heap.size, 5, none⟩ = some (.int .i32 i2) ∧ W.cell? ⟨w3.heap.size, 6, none⟩ = some (.string s2) ∧ W.cell? ⟨w3.heap.size, 7, none⟩ = some (.slice xa2 k2 xc2)) w7 from HSF.out w7 hbx)
  have HB7 := Lib.hid hbx
  refine hK.out _ _ HW7.out ?_
  clear hK K hbn hbx
  (try simp only [Act.put, List.setIfInBounds_toArray, List.set_cons_zero, List.set_cons_succ])
  (refine wpAnyT_take (i := 13) (oi := ?_) (v := ?_) ?_ (by as_aux_lemma => kernel_rfl) (by as_aux_lemma => kernel_rfl) (by as_aux_lemma => kernel_rfl) (by as_aux_lemma => kernel_rfl) ?_ (Or.inl ⟨?_, ?_⟩) HW7.out ?_; rotate_left 2; (focus (simp only [List.getElem?_toArray, List.getElem?_cons_succ, List.getElem?_cons_zero] <;> rfl)); (focus exact (fun _ _ _ h => h)); (focus rfl); (focus (intro w hSw; (try dsimp only at hSw); go_simp; try (with_reducible rfl))))
  (try simp only [Act.put, List.setIfInBounds_toArray, List.set_cons_zero, List.set_cons_succ])
  (refine wpAnyT_take (i := 14) (oi := ?_) (v := ?_) ?_ (by as_aux_lemma => kernel_rfl) (by as_aux_lemma => kernel_rfl) (by as_aux_lemma => kernel_rfl) (by as_aux_lemma => kernel_rfl) ?_ (Or.inl ⟨?_, ?_⟩) HW7.out ?_; rotate_left 2; (focus (simp only [List.getElem?_toArray, List.getElem?_cons_succ, List.getElem?_cons_zero] <;> rfl)); (focus exact (fun _ _ _ h => h)); (focus rfl); (focus (intro w hSw; (try dsimp only at hSw); go_simp; try (with_reducible rfl))))
  (try simp only [Act.put, List.setIfInBounds_toArray, List.set_cons_zero, List.set_cons_succ])
  (refine wpAnyT_late (i := 15) (oi := ?_) ?_ (by as_aux_lemma => kernel_rfl) (by as_aux_lemma => kernel_rfl) (fun K hK => ?_); rotate_left; (focus (simp only [List.getElem?_toArray, List.getElem?_cons_succ, List.getElem?_cons_zero] <;> rfl)))
  go_simp
  refine hK.out _ _ ?_
  clear hK K
  refine wpAnyT_done (by as_aux_lemma => kernel_rfl) ?_ _
  go_wp2_with fail
  go_ret
  exact ⟨rfl, HB3.out.trans (HB7.out.mono HSZ.out)⟩
end Go.Proofs.Ytiikeilpgajmfaa
