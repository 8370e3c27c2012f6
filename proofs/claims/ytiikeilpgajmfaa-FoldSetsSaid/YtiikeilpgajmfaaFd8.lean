/- Fold: fold.Expr, one operand and two. (Printed by gen_fd7.py.) -/
import Derived.Test.YtiikeilpgajmfaaFd7
namespace Go.Proofs.Ytiikeilpgajmfaa
open Go.RowKit Go.Waf
set_option maxRecDepth 100000
set_option linter.unusedVariables false
set_option linter.unusedSimpArgs false

set_option maxHeartbeats 6400000 in
theorem fexpr_one1 (w : World) (op f n i : Int) (nm s : ByteArray) (tk tc xc b o : Nat) (ta : Option Addr) (x : Nat → Ex) (hx : ExsAt w (some ⟨b, o, none⟩) 1 x) (h1 : 1 ≤ xc) (h2 : xc ≤ 9223372036854775807) (hop : isUn op) (hfi : -2147483648 ≤ (x 0).i ∧ (x 0).i ≤ 2147483647) (ha : allC 1 x = true) (ht : unB op (x 0).i = true) : Calls Try.prog 13 #[.agg #[.int .i64 op, .int .i64 f, .int .i64 n, .string nm, .slice ta tk tc, .int .i32 i, .string s, .slice (some ⟨b, o, none⟩) 1 xc]] w fun en w' => en = .returned (.tuple #[.agg #[.int .i64 0, .int .i64 f, .int .i64 0, .string ByteArray.empty, .slice none 0 0, .int .i32 (unI op (x 0).t.form (x 0).i), .string ByteArray.empty, .slice none 0 0], .int .i64 (0)]) ∧ Below w.heap.size w w' := by
  obtain ⟨w1, hw1⟩ : ∃ w1 : World, w1 = (w.alloc (.cells #[.int .i64 op, .int .i64 f, .int .i64 n, .string nm, .slice ta tk tc, .int .i32 i, .string s, .slice (some ⟨b, o, none⟩) 1 xc] 27)).alloc (.cells #[.int .i64 0, .int .i64 0, .int .i64 0, .string { data := #[] }, .slice none 0 0, .int .i32 0, .string { data := #[] }, .slice none 0 0] 27) := ⟨_, rfl⟩
  have hs1 : w1.heap.size = w.heap.size + 2 := by rw [hw1]; simp
  have HE := Lib.hid (show w1.heap[w.heap.size]? = some (.cells #[.int .i64 op, .int .i64 f, .int .i64 n, .string nm, .slice ta tk tc, .int .i32 i, .string s, .slice (some ⟨b, o, none⟩) 1 xc] 27 (0, 0)) from by rw [hw1]; exact heap_alloc2_old w _ _)
  have HZ := Lib.hid (show w1.heap[w.heap.size + 1]? = some (.cells #[.int .i64 0, .int .i64 0, .int .i64 0, .string { data := #[] }, .slice none 0 0, .int .i32 0, .string { data := #[] }, .slice none 0 0] 27 (0, 0)) from by rw [hw1]; exact heap_alloc2_new w _ _)
  have hb01 : Below w.heap.size w w1 := by rw [hw1]; exact ((Below.refl _ _).alloc (Nat.le_refl _) _).alloc (by simp) _
  have HB01 := Lib.hid hb01
  have HX := Lib.hid (hx.below hb01 (Nat.le_refl _))
  have HW1 := Lib.hid hw1
  have HS1 := Lib.hid hs1
  obtain ⟨b', o', hbo, hcc⟩ := HX.out (by decide)
  cases hbo
  obtain ⟨tu, xu, hok0, hc0⟩ := hcc 0 (by decide)
  obtain ⟨E0, hE0⟩ : ∃ E0, E0 = x 0 := ⟨_, rfl⟩
  rw [← hE0] at hok0 hc0 ⊢
  rw [← hE0] at hfi
  rw [← hE0] at ht
  obtain ⟨v, hv⟩ : ∃ v, v = unI op E0.t.form E0.i := ⟨_, rfl⟩
  rw [← hv]
  have hcn : ((1 : Nat) : Int) = cnt op := by unfold isUn at hop; unfold cnt; rw [if_pos hop]; rfl
  have hc : (7 ≤ op ∧ op ≤ 22) ∨ (27 ≤ op ∧ op ≤ 33) := by unfold isUn at hop; omega
  have ho : ¬ op = 24 := by unfold isUn at hop; omega
  have HSF := Lib.hid (show ∀ V : World, Below w1.heap.size w1 V → (V.cell? ⟨w.heap.size, 0, none⟩ = some (.int .i64 op) ∧ V.cell? ⟨w.heap.size, 7, none⟩ = some (.slice (some ⟨b, o, none⟩) 1 xc) ∧ V.cell? ⟨b, o, none⟩ = some (.int .i64 E0.op) ∧ V.cell? ⟨b, o + 1, none⟩ = some (.int .i64 E0.t.form) ∧ V.cell? ⟨b, o + 2, none⟩ = some (.int .i64 E0.t.num) ∧ V.cell? ⟨b, o + 3, none⟩ = some (.string E0.t.name) ∧ V.cell? ⟨b, o + 4, none⟩ = some (tu) ∧ V.cell? ⟨b, o + 5, none⟩ = some (.int .i32 E0.i) ∧ V.cell? ⟨b, o + 6, none⟩ = some (.string E0.s) ∧ V.cell? ⟨b, o + 7, none⟩ = some (xu)) from fun V hb => ⟨cell_below hb (Nat.le_refl _) ((cell_of_row w1 _ 0 _ _ _ HE.out).trans rfl), cell_below hb (Nat.le_refl _) ((cell_of_row w1 _ 7 _ _ _ HE.out).trans rfl), cell_below hb (Nat.le_refl _) (by simpa using hc0.c0), cell_below hb (Nat.le_refl _) (by simpa using hc0.c1), cell_below hb (Nat.le_refl _) (by simpa using hc0.c2), cell_below hb (Nat.le_refl _) (by simpa using hc0.c3), cell_below hb (Nat.le_refl _) (by simpa using hc0.c4), cell_below hb (Nat.le_refl _) (by simpa using hc0.c5), cell_below hb (Nat.le_refl _) (by simpa using hc0.c6), cell_below hb (Nat.le_refl _) (by simpa using hc0.c7)⟩)
  have HA := Lib.hid ha
  have HT := Lib.hid ht
  have HCC := Lib.hid (show (1 : Int) = cnt op from hcn)
  have HV := Lib.hid hv
  have HFI := Lib.hid hfi
  have HOP := Lib.hid hop
  clear hcc hok0 hc0 hE0 hb01 hw1 hs1 hx ha ht hv hfi hop hcn
  go_enter Try.func13, Try.ntmps13
  go_wp2_with (go_at_call 22; refine (count_c _ _ _ hc HCC.out).mono ?_; rintro en w2 ⟨rfl, rfl⟩)
  rw [← HW1.out]
  refine (all_prog w1 (some ⟨b, o, none⟩) 1 xc x HX.out h1 h2).mono ?_
  rintro en w2 ⟨rfl, hbn⟩
  have hbw2 : Below w1.heap.size w1 w2 := hbn
  clear hbn
  rw [HA.out]
  have he := HE.out
  rw [← hbw2.block _ (by rw [HS1.out]; omega)] at he
  have hz := HZ.out
  rw [← hbw2.block _ (by rw [HS1.out]; omega)] at hz
  have e0 : w2.cell? ⟨w.heap.size, 0, none⟩ = some (.int .i64 op) := (cell_of_row w2 _ 0 _ _ _ he).trans rfl
  have e1 : w2.cell? ⟨w.heap.size, 1, none⟩ = some (.int .i64 f) := (cell_of_row w2 _ 1 _ _ _ he).trans rfl
  have e2 : w2.cell? ⟨w.heap.size, 2, none⟩ = some (.int .i64 n) := (cell_of_row w2 _ 2 _ _ _ he).trans rfl
  have e3 : w2.cell? ⟨w.heap.size, 3, none⟩ = some (.string nm) := (cell_of_row w2 _ 3 _ _ _ he).trans rfl
  have e4 : w2.cell? ⟨w.heap.size, 4, none⟩ = some (.slice ta tk tc) := (cell_of_row w2 _ 4 _ _ _ he).trans rfl
  have e5 : w2.cell? ⟨w.heap.size, 5, none⟩ = some (.int .i32 i) := (cell_of_row w2 _ 5 _ _ _ he).trans rfl
  have e6 : w2.cell? ⟨w.heap.size, 6, none⟩ = some (.string s) := (cell_of_row w2 _ 6 _ _ _ he).trans rfl
  have e7 : w2.cell? ⟨w.heap.size, 7, none⟩ = some (.slice (some ⟨b, o, none⟩) 1 xc) := (cell_of_row w2 _ 7 _ _ _ he).trans rfl
  have z0 : w2.cell? ⟨w.heap.size + 1, 0, none⟩ = some (.int .i64 0) := (cell_of_row w2 _ 0 _ _ _ hz).trans rfl
  have zf0 := frozen_of_row w2 (w.heap.size + 1) 0 _ _ hz
  have z1 : w2.cell? ⟨w.heap.size + 1, 1, none⟩ = some (.int .i64 0) := (cell_of_row w2 _ 1 _ _ _ hz).trans rfl
  have zf1 := frozen_of_row w2 (w.heap.size + 1) 1 _ _ hz
  have z2 : w2.cell? ⟨w.heap.size + 1, 2, none⟩ = some (.int .i64 0) := (cell_of_row w2 _ 2 _ _ _ hz).trans rfl
  have zf2 := frozen_of_row w2 (w.heap.size + 1) 2 _ _ hz
  have z3 : w2.cell? ⟨w.heap.size + 1, 3, none⟩ = some (.string { data := #[] }) := (cell_of_row w2 _ 3 _ _ _ hz).trans rfl
  have zf3 := frozen_of_row w2 (w.heap.size + 1) 3 _ _ hz
  have z4 : w2.cell? ⟨w.heap.size + 1, 4, none⟩ = some (.slice none 0 0) := (cell_of_row w2 _ 4 _ _ _ hz).trans rfl
  have zf4 := frozen_of_row w2 (w.heap.size + 1) 4 _ _ hz
  have z5 : w2.cell? ⟨w.heap.size + 1, 5, none⟩ = some (.int .i32 0) := (cell_of_row w2 _ 5 _ _ _ hz).trans rfl
  have zf5 := frozen_of_row w2 (w.heap.size + 1) 5 _ _ hz
  have z6 : w2.cell? ⟨w.heap.size + 1, 6, none⟩ = some (.string { data := #[] }) := (cell_of_row w2 _ 6 _ _ _ hz).trans rfl
  have zf6 := frozen_of_row w2 (w.heap.size + 1) 6 _ _ hz
  have z7 : w2.cell? ⟨w.heap.size + 1, 7, none⟩ = some (.slice none 0 0) := (cell_of_row w2 _ 7 _ _ _ hz).trans rfl
  have zf7 := frozen_of_row w2 (w.heap.size + 1) 7 _ _ hz
  have HSMw2 := Lib.hid (show ∀ j, j < 8 → (w2.cell? ⟨w.heap.size + 1, j, none⟩).isSome = true from fun j hj => some8 hz j hj)
  have HBw2 := Lib.hid hbw2
  have hzw2 := hbw2.size
  clear he hz hbw2
  go_wp2_with fail
  obtain ⟨w3, hwd⟩ : ∃ w3 : World, w3 = w2.drew := ⟨_, rfl⟩
  have HWD := Lib.hid hwd
  have hbw3 : Below w1.heap.size w1 w3 := by rw [hwd]; exact below_drewN HBw2.out 1
  clear hwd
  have HBw3 := Lib.hid hbw3
  clear hbw3
  have HS := Lib.hid (show (fun W : World => (W.cell? ⟨w.heap.size, 0, none⟩ = some (.int .i64 op) ∧ W.cell? ⟨w.heap.size, 7, none⟩ = some (.slice (some ⟨b, o, none⟩) 1 xc) ∧ W.cell? ⟨b, o, none⟩ = some (.int .i64 E0.op) ∧ W.cell? ⟨b, o + 1, none⟩ = some (.int .i64 E0.t.form) ∧ W.cell? ⟨b, o + 2, none⟩ = some (.int .i64 E0.t.num) ∧ W.cell? ⟨b, o + 3, none⟩ = some (.string E0.t.name) ∧ W.cell? ⟨b, o + 4, none⟩ = some (tu) ∧ W.cell? ⟨b, o + 5, none⟩ = some (.int .i32 E0.i) ∧ W.cell? ⟨b, o + 6, none⟩ = some (.string E0.s) ∧ W.cell? ⟨b, o + 7, none⟩ = some (xu))) w3 from HSF.out w3 HBw3.out)
  have HON := Lib.hid (one_prog w3 op E0 tu xu HFI.out HOP.out)
  rw [HT.out, ← HV.out] at HON
  unfold exV at HON
  refine wp_region_till 11 (fun W => (W.cell? ⟨w.heap.size, 0, none⟩ = some (.int .i64 op) ∧ W.cell? ⟨w.heap.size, 7, none⟩ = some (.slice (some ⟨b, o, none⟩) 1 xc) ∧ W.cell? ⟨b, o, none⟩ = some (.int .i64 E0.op) ∧ W.cell? ⟨b, o + 1, none⟩ = some (.int .i64 E0.t.form) ∧ W.cell? ⟨b, o + 2, none⟩ = some (.int .i64 E0.t.num) ∧ W.cell? ⟨b, o + 3, none⟩ = some (.string E0.t.name) ∧ W.cell? ⟨b, o + 4, none⟩ = some (tu) ∧ W.cell? ⟨b, o + 5, none⟩ = some (.int .i32 E0.i) ∧ W.cell? ⟨b, o + 6, none⟩ = some (.string E0.s) ∧ W.cell? ⟨b, o + 7, none⟩ = some (xu))) (by as_aux_lemma => kernel_rfl) ?_
  rw [← HWD.out]
  (refine wpAnyT_take (i := 0) (oi := ?_) (v := ?_) ?_ (by as_aux_lemma => kernel_rfl) (by as_aux_lemma => kernel_rfl) (by as_aux_lemma => kernel_rfl) (by as_aux_lemma => kernel_rfl) ?_ (Or.inl ⟨?_, ?_⟩) HS.out ?_; rotate_left 2; (focus (simp only [List.getElem?_toArray, List.getElem?_cons_succ, List.getElem?_cons_zero] <;> rfl)); (focus exact (fun _ _ _ h => h)); (focus rfl); (focus (intro w hSw; (try dsimp only at hSw); go_simp; try (with_reducible rfl))))
  (try simp only [Act.put, List.setIfInBounds_toArray, List.set_cons_zero, List.set_cons_succ])
  (refine wpAnyT_take (i := 1) (oi := ?_) (v := ?_) ?_ (by as_aux_lemma => kernel_rfl) (by as_aux_lemma => kernel_rfl) (by as_aux_lemma => kernel_rfl) (by as_aux_lemma => kernel_rfl) ?_ (Or.inl ⟨?_, ?_⟩) HS.out ?_; rotate_left 2; (focus (simp only [List.getElem?_toArray, List.getElem?_cons_succ, List.getElem?_cons_zero] <;> rfl)); (focus exact (fun _ _ _ h => h)); (focus rfl); (focus (intro w hSw; (try dsimp only at hSw); go_simp; try (with_reducible rfl))))
  (try simp only [Act.put, List.setIfInBounds_toArray, List.set_cons_zero, List.set_cons_succ])
  (refine wpAnyT_take (i := 2) (oi := ?_) (v := ?_) ?_ (by as_aux_lemma => kernel_rfl) (by as_aux_lemma => kernel_rfl) (by as_aux_lemma => kernel_rfl) (by as_aux_lemma => kernel_rfl) ?_ (Or.inl ⟨?_, ?_⟩) HS.out ?_; rotate_left 2; (focus (simp only [List.getElem?_toArray, List.getElem?_cons_succ, List.getElem?_cons_zero] <;> rfl)); (focus exact (fun _ _ _ h => h)); (focus rfl); (focus (intro w hSw; (try dsimp only at hSw); go_simp; try (with_reducible rfl))))
  (try simp only [Act.put, List.setIfInBounds_toArray, List.set_cons_zero, List.set_cons_succ])
  (refine wpAnyT_take (i := 3) (oi := ?_) (v := ?_) ?_ (by as_aux_lemma => kernel_rfl) (by as_aux_lemma => kernel_rfl) (by as_aux_lemma => kernel_rfl) (by as_aux_lemma => kernel_rfl) ?_ (Or.inl ⟨?_, ?_⟩) HS.out ?_; rotate_left 2; (focus (simp only [List.getElem?_toArray, List.getElem?_cons_succ, List.getElem?_cons_zero] <;> rfl)); (focus exact (fun _ _ _ h => h)); (focus rfl); (focus (intro w hSw; (try dsimp only at hSw); go_simp; try (with_reducible rfl))))
  (try simp only [Act.put, List.setIfInBounds_toArray, List.set_cons_zero, List.set_cons_succ])
  (refine wpAnyT_take (i := 4) (oi := ?_) (v := ?_) ?_ (by as_aux_lemma => kernel_rfl) (by as_aux_lemma => kernel_rfl) (by as_aux_lemma => kernel_rfl) (by as_aux_lemma => kernel_rfl) ?_ (Or.inl ⟨?_, ?_⟩) HS.out ?_; rotate_left 2; (focus (simp only [List.getElem?_toArray, List.getElem?_cons_succ, List.getElem?_cons_zero] <;> rfl)); (focus exact (fun _ _ _ h => h)); (focus rfl); (focus (intro w hSw; (try dsimp only at hSw); go_simp; try (with_reducible rfl))))
  (try simp only [Act.put, List.setIfInBounds_toArray, List.set_cons_zero, List.set_cons_succ])
  (refine wpAnyT_take (i := 5) (oi := ?_) (v := ?_) ?_ (by as_aux_lemma => kernel_rfl) (by as_aux_lemma => kernel_rfl) (by as_aux_lemma => kernel_rfl) (by as_aux_lemma => kernel_rfl) ?_ (Or.inl ⟨?_, ?_⟩) HS.out ?_; rotate_left 2; (focus (simp only [List.getElem?_toArray, List.getElem?_cons_succ, List.getElem?_cons_zero] <;> rfl)); (focus exact (fun _ _ _ h => h)); (focus rfl); (focus (intro w hSw; (try dsimp only at hSw); go_simp; try (with_reducible rfl))))
  (try simp only [Act.put, List.setIfInBounds_toArray, List.set_cons_zero, List.set_cons_succ])
  (refine wpAnyT_one (i := 6) (oi := ?_) ?_ (by as_aux_lemma => kernel_rfl) (fun K hK => ?_); rotate_left; (focus (simp only [List.getElem?_toArray, List.getElem?_cons_succ, List.getElem?_cons_zero] <;> rfl)))
  go_simp
  refine HON.out.mono ?_
  rintro en w4 ⟨rfl, hbn⟩
  have hbw4 : Below w1.heap.size w1 w4 := HBw3.out.trans (hbn.mono HBw3.out.size)
  have HBw4 := Lib.hid hbw4
  have HS4 := Lib.hid (show (fun W : World => (W.cell? ⟨w.heap.size, 0, none⟩ = some (.int .i64 op) ∧ W.cell? ⟨w.heap.size, 7, none⟩ = some (.slice (some ⟨b, o, none⟩) 1 xc) ∧ W.cell? ⟨b, o, none⟩ = some (.int .i64 E0.op) ∧ W.cell? ⟨b, o + 1, none⟩ = some (.int .i64 E0.t.form) ∧ W.cell? ⟨b, o + 2, none⟩ = some (.int .i64 E0.t.num) ∧ W.cell? ⟨b, o + 3, none⟩ = some (.string E0.t.name) ∧ W.cell? ⟨b, o + 4, none⟩ = some (tu) ∧ W.cell? ⟨b, o + 5, none⟩ = some (.int .i32 E0.i) ∧ W.cell? ⟨b, o + 6, none⟩ = some (.string E0.s) ∧ W.cell? ⟨b, o + 7, none⟩ = some (xu))) w4 from HSF.out w4 HBw4.out)
  refine hK.out _ _ HS4.out ?_
  clear hK K hbn
  (try simp only [Act.put, List.setIfInBounds_toArray, List.set_cons_zero, List.set_cons_succ])
  (refine wpAnyT_take (i := 7) (oi := ?_) (v := ?_) ?_ (by as_aux_lemma => kernel_rfl) (by as_aux_lemma => kernel_rfl) (by as_aux_lemma => kernel_rfl) (by as_aux_lemma => kernel_rfl) ?_ (Or.inl ⟨?_, ?_⟩) HS4.out ?_; rotate_left 2; (focus (simp only [List.getElem?_toArray, List.getElem?_cons_succ, List.getElem?_cons_zero] <;> rfl)); (focus exact (fun _ _ _ h => h)); (focus rfl); (focus (intro w hSw; (try dsimp only at hSw); go_simp; try (with_reducible rfl))))
  (try simp only [Act.put, List.setIfInBounds_toArray, List.set_cons_zero, List.set_cons_succ])
  (refine wpAnyT_take (i := 8) (oi := ?_) (v := ?_) ?_ (by as_aux_lemma => kernel_rfl) (by as_aux_lemma => kernel_rfl) (by as_aux_lemma => kernel_rfl) (by as_aux_lemma => kernel_rfl) ?_ (Or.inl ⟨?_, ?_⟩) HS4.out ?_; rotate_left 2; (focus (simp only [List.getElem?_toArray, List.getElem?_cons_succ, List.getElem?_cons_zero] <;> rfl)); (focus exact (fun _ _ _ h => h)); (focus rfl); (focus (intro w hSw; (try dsimp only at hSw); go_simp; try (with_reducible rfl))))
  (try simp only [Act.put, List.setIfInBounds_toArray, List.set_cons_zero, List.set_cons_succ])
  (refine wpAnyT_take (i := 9) (oi := ?_) (v := ?_) ?_ (by as_aux_lemma => kernel_rfl) (by as_aux_lemma => kernel_rfl) (by as_aux_lemma => kernel_rfl) (by as_aux_lemma => kernel_rfl) ?_ (Or.inl ⟨?_, ?_⟩) HS4.out ?_; rotate_left 2; (focus (simp only [List.getElem?_toArray, List.getElem?_cons_succ, List.getElem?_cons_zero] <;> rfl)); (focus exact (fun _ _ _ h => h)); (focus rfl); (focus (intro w hSw; (try dsimp only at hSw); go_simp; try (with_reducible rfl))))
  (try simp only [Act.put, List.setIfInBounds_toArray, List.set_cons_zero, List.set_cons_succ])
  (refine wpAnyT_take (i := 10) (oi := ?_) (v := ?_) ?_ (by as_aux_lemma => kernel_rfl) (by as_aux_lemma => kernel_rfl) (by as_aux_lemma => kernel_rfl) (by as_aux_lemma => kernel_rfl) ?_ (Or.inl ⟨?_, ?_⟩) HS4.out ?_; rotate_left 2; (focus (simp only [List.getElem?_toArray, List.getElem?_cons_succ, List.getElem?_cons_zero] <;> rfl)); (focus exact (fun _ _ _ h => h)); (focus rfl); (focus (intro w hSw; (try dsimp only at hSw); go_simp; try (with_reducible rfl))))
  (try simp only [Act.put, List.setIfInBounds_toArray, List.set_cons_zero, List.set_cons_succ])
  (refine wpAnyT_late (i := 11) (oi := ?_) ?_ (by as_aux_lemma => kernel_rfl) (by as_aux_lemma => kernel_rfl) (fun K hK => ?_); rotate_left; (focus (simp only [List.getElem?_toArray, List.getElem?_cons_succ, List.getElem?_cons_zero] <;> rfl)))
  go_simp
  refine hK.out _ _ ?_
  clear hK K
  refine wpAnyT_done (by as_aux_lemma => kernel_rfl) ?_ _
  clear e0 e1 e2 e3 e4 e5 e6 e7
  clear z0 zf0 z1 zf1 z2 zf2 z3 zf3 z4 zf4 z5 zf5 z6 zf6 z7 zf7
  have he := HE.out
  rw [← hbw4.block _ (by rw [HS1.out]; omega)] at he
  have hz := HZ.out
  rw [← hbw4.block _ (by rw [HS1.out]; omega)] at hz
  have e0 : w4.cell? ⟨w.heap.size, 0, none⟩ = some (.int .i64 op) := (cell_of_row w4 _ 0 _ _ _ he).trans rfl
  have e1 : w4.cell? ⟨w.heap.size, 1, none⟩ = some (.int .i64 f) := (cell_of_row w4 _ 1 _ _ _ he).trans rfl
  have e2 : w4.cell? ⟨w.heap.size, 2, none⟩ = some (.int .i64 n) := (cell_of_row w4 _ 2 _ _ _ he).trans rfl
  have e3 : w4.cell? ⟨w.heap.size, 3, none⟩ = some (.string nm) := (cell_of_row w4 _ 3 _ _ _ he).trans rfl
  have e4 : w4.cell? ⟨w.heap.size, 4, none⟩ = some (.slice ta tk tc) := (cell_of_row w4 _ 4 _ _ _ he).trans rfl
  have e5 : w4.cell? ⟨w.heap.size, 5, none⟩ = some (.int .i32 i) := (cell_of_row w4 _ 5 _ _ _ he).trans rfl
  have e6 : w4.cell? ⟨w.heap.size, 6, none⟩ = some (.string s) := (cell_of_row w4 _ 6 _ _ _ he).trans rfl
  have e7 : w4.cell? ⟨w.heap.size, 7, none⟩ = some (.slice (some ⟨b, o, none⟩) 1 xc) := (cell_of_row w4 _ 7 _ _ _ he).trans rfl
  have z0 : w4.cell? ⟨w.heap.size + 1, 0, none⟩ = some (.int .i64 0) := (cell_of_row w4 _ 0 _ _ _ hz).trans rfl
  have zf0 := frozen_of_row w4 (w.heap.size + 1) 0 _ _ hz
  have z1 : w4.cell? ⟨w.heap.size + 1, 1, none⟩ = some (.int .i64 0) := (cell_of_row w4 _ 1 _ _ _ hz).trans rfl
  have zf1 := frozen_of_row w4 (w.heap.size + 1) 1 _ _ hz
  have z2 : w4.cell? ⟨w.heap.size + 1, 2, none⟩ = some (.int .i64 0) := (cell_of_row w4 _ 2 _ _ _ hz).trans rfl
  have zf2 := frozen_of_row w4 (w.heap.size + 1) 2 _ _ hz
  have z3 : w4.cell? ⟨w.heap.size + 1, 3, none⟩ = some (.string { data := #[] }) := (cell_of_row w4 _ 3 _ _ _ hz).trans rfl
  have zf3 := frozen_of_row w4 (w.heap.size + 1) 3 _ _ hz
  have z4 : w4.cell? ⟨w.heap.size + 1, 4, none⟩ = some (.slice none 0 0) := (cell_of_row w4 _ 4 _ _ _ hz).trans rfl
  have zf4 := frozen_of_row w4 (w.heap.size + 1) 4 _ _ hz
  have z5 : w4.cell? ⟨w.heap.size + 1, 5, none⟩ = some (.int .i32 0) := (cell_of_row w4 _ 5 _ _ _ hz).trans rfl
  have zf5 := frozen_of_row w4 (w.heap.size + 1) 5 _ _ hz
  have z6 : w4.cell? ⟨w.heap.size + 1, 6, none⟩ = some (.string { data := #[] }) := (cell_of_row w4 _ 6 _ _ _ hz).trans rfl
  have zf6 := frozen_of_row w4 (w.heap.size + 1) 6 _ _ hz
  have z7 : w4.cell? ⟨w.heap.size + 1, 7, none⟩ = some (.slice none 0 0) := (cell_of_row w4 _ 7 _ _ _ hz).trans rfl
  have zf7 := frozen_of_row w4 (w.heap.size + 1) 7 _ _ hz
  have HSMw4 := Lib.hid (show ∀ j, j < 8 → (w4.cell? ⟨w.heap.size + 1, j, none⟩).isSome = true from fun j hj => some8 hz j hj)
  have hzw4 := hbw4.size
  clear he hz hbw4
  go_wp2_with fail
  refine (num_prog w4 f _).mono ?_
  rintro en w5 ⟨he, hbn⟩
  obtain rfl : en = .returned (.agg #[.int .i64 0, .int .i64 f, .int .i64 0, .string ByteArray.empty, .slice none 0 0, .int .i32 (v), .string ByteArray.empty, .slice none 0 0]) := he
  have hbw5 : Below w1.heap.size w1 w5 := HBw4.out.trans (hbn.mono HBw4.out.size)
  clear hbn
  clear e0 e1 e2 e3 e4 e5 e6 e7
  clear z0 zf0 z1 zf1 z2 zf2 z3 zf3 z4 zf4 z5 zf5 z6 zf6 z7 zf7
  have he := HE.out
  rw [← hbw5.block _ (by rw [HS1.out]; omega)] at he
  have hz := HZ.out
  rw [← hbw5.block _ (by rw [HS1.out]; omega)] at hz
  have e0 : w5.cell? ⟨w.heap.size, 0, none⟩ = some (.int .i64 op) := (cell_of_row w5 _ 0 _ _ _ he).trans rfl
  have e1 : w5.cell? ⟨w.heap.size, 1, none⟩ = some (.int .i64 f) := (cell_of_row w5 _ 1 _ _ _ he).trans rfl
  have e2 : w5.cell? ⟨w.heap.size, 2, none⟩ = some (.int .i64 n) := (cell_of_row w5 _ 2 _ _ _ he).trans rfl
  have e3 : w5.cell? ⟨w.heap.size, 3, none⟩ = some (.string nm) := (cell_of_row w5 _ 3 _ _ _ he).trans rfl
  have e4 : w5.cell? ⟨w.heap.size, 4, none⟩ = some (.slice ta tk tc) := (cell_of_row w5 _ 4 _ _ _ he).trans rfl
  have e5 : w5.cell? ⟨w.heap.size, 5, none⟩ = some (.int .i32 i) := (cell_of_row w5 _ 5 _ _ _ he).trans rfl
  have e6 : w5.cell? ⟨w.heap.size, 6, none⟩ = some (.string s) := (cell_of_row w5 _ 6 _ _ _ he).trans rfl
  have e7 : w5.cell? ⟨w.heap.size, 7, none⟩ = some (.slice (some ⟨b, o, none⟩) 1 xc) := (cell_of_row w5 _ 7 _ _ _ he).trans rfl
  have z0 : w5.cell? ⟨w.heap.size + 1, 0, none⟩ = some (.int .i64 0) := (cell_of_row w5 _ 0 _ _ _ hz).trans rfl
  have zf0 := frozen_of_row w5 (w.heap.size + 1) 0 _ _ hz
  have z1 : w5.cell? ⟨w.heap.size + 1, 1, none⟩ = some (.int .i64 0) := (cell_of_row w5 _ 1 _ _ _ hz).trans rfl
  have zf1 := frozen_of_row w5 (w.heap.size + 1) 1 _ _ hz
  have z2 : w5.cell? ⟨w.heap.size + 1, 2, none⟩ = some (.int .i64 0) := (cell_of_row w5 _ 2 _ _ _ hz).trans rfl
  have zf2 := frozen_of_row w5 (w.heap.size + 1) 2 _ _ hz
  have z3 : w5.cell? ⟨w.heap.size + 1, 3, none⟩ = some (.string { data := #[] }) := (cell_of_row w5 _ 3 _ _ _ hz).trans rfl
  have zf3 := frozen_of_row w5 (w.heap.size + 1) 3 _ _ hz
  have z4 : w5.cell? ⟨w.heap.size + 1, 4, none⟩ = some (.slice none 0 0) := (cell_of_row w5 _ 4 _ _ _ hz).trans rfl
  have zf4 := frozen_of_row w5 (w.heap.size + 1) 4 _ _ hz
  have z5 : w5.cell? ⟨w.heap.size + 1, 5, none⟩ = some (.int .i32 0) := (cell_of_row w5 _ 5 _ _ _ hz).trans rfl
  have zf5 := frozen_of_row w5 (w.heap.size + 1) 5 _ _ hz
  have z6 : w5.cell? ⟨w.heap.size + 1, 6, none⟩ = some (.string { data := #[] }) := (cell_of_row w5 _ 6 _ _ _ hz).trans rfl
  have zf6 := frozen_of_row w5 (w.heap.size + 1) 6 _ _ hz
  have z7 : w5.cell? ⟨w.heap.size + 1, 7, none⟩ = some (.slice none 0 0) := (cell_of_row w5 _ 7 _ _ _ hz).trans rfl
  have zf7 := frozen_of_row w5 (w.heap.size + 1) 7 _ _ hz
  have HSMw5 := Lib.hid (show ∀ j, j < 8 → (w5.cell? ⟨w.heap.size + 1, j, none⟩).isSome = true from fun j hj => some8 hz j hj)
  have HBw5 := Lib.hid hbw5
  have hzw5 := hbw5.size
  clear he hz hbw5
  go_wp2_with fail
  exact bodyPost_ret (v := .tuple #[.agg #[.int .i64 0, .int .i64 f, .int .i64 0, .string ByteArray.empty, .slice none 0 0, .int .i32 (v), .string ByteArray.empty, .slice none 0 0], .int .i64 (0)]) (by simp [results, Try.results13, go_sem, HSMw5.out 0, HSMw5.out 1, HSMw5.out 2, HSMw5.out 3, HSMw5.out 4, HSMw5.out 5, HSMw5.out 6, HSMw5.out 7]; try rfl) rfl ⟨rfl, below_set8n (HB01.out.trans (HBw5.out.mono (by rw [HS1.out]; omega))) (by omega) _ _ _ _ _ _ _ _⟩

set_option maxHeartbeats 6400000 in
theorem fexpr_one0 (w : World) (op f n i : Int) (nm s : ByteArray) (tk tc xc b o : Nat) (ta : Option Addr) (x : Nat → Ex) (hx : ExsAt w (some ⟨b, o, none⟩) 1 x) (h1 : 1 ≤ xc) (h2 : xc ≤ 9223372036854775807) (hop : isUn op) (hfi : -2147483648 ≤ (x 0).i ∧ (x 0).i ≤ 2147483647) (ha : allC 1 x = true) (ht : unB op (x 0).i = false) : Calls Try.prog 13 #[.agg #[.int .i64 op, .int .i64 f, .int .i64 n, .string nm, .slice ta tk tc, .int .i32 i, .string s, .slice (some ⟨b, o, none⟩) 1 xc]] w fun en w' => en = .returned (.tuple #[.agg #[.int .i64 0, .int .i64 0, .int .i64 0, .string ByteArray.empty, .slice none 0 0, .int .i32 0, .string ByteArray.empty, .slice none 0 0], .int .i64 (33)]) ∧ Below w.heap.size w w' := by
  obtain ⟨w1, hw1⟩ : ∃ w1 : World, w1 = (w.alloc (.cells #[.int .i64 op, .int .i64 f, .int .i64 n, .string nm, .slice ta tk tc, .int .i32 i, .string s, .slice (some ⟨b, o, none⟩) 1 xc] 27)).alloc (.cells #[.int .i64 0, .int .i64 0, .int .i64 0, .string { data := #[] }, .slice none 0 0, .int .i32 0, .string { data := #[] }, .slice none 0 0] 27) := ⟨_, rfl⟩
  have hs1 : w1.heap.size = w.heap.size + 2 := by rw [hw1]; simp
  have HE := Lib.hid (show w1.heap[w.heap.size]? = some (.cells #[.int .i64 op, .int .i64 f, .int .i64 n, .string nm, .slice ta tk tc, .int .i32 i, .string s, .slice (some ⟨b, o, none⟩) 1 xc] 27 (0, 0)) from by rw [hw1]; exact heap_alloc2_old w _ _)
  have HZ := Lib.hid (show w1.heap[w.heap.size + 1]? = some (.cells #[.int .i64 0, .int .i64 0, .int .i64 0, .string { data := #[] }, .slice none 0 0, .int .i32 0, .string { data := #[] }, .slice none 0 0] 27 (0, 0)) from by rw [hw1]; exact heap_alloc2_new w _ _)
  have hb01 : Below w.heap.size w w1 := by rw [hw1]; exact ((Below.refl _ _).alloc (Nat.le_refl _) _).alloc (by simp) _
  have HB01 := Lib.hid hb01
  have HX := Lib.hid (hx.below hb01 (Nat.le_refl _))
  have HW1 := Lib.hid hw1
  have HS1 := Lib.hid hs1
  obtain ⟨b', o', hbo, hcc⟩ := HX.out (by decide)
  cases hbo
  obtain ⟨tu, xu, hok0, hc0⟩ := hcc 0 (by decide)
  obtain ⟨E0, hE0⟩ : ∃ E0, E0 = x 0 := ⟨_, rfl⟩
  rw [← hE0] at hok0 hc0
  rw [← hE0] at hfi
  rw [← hE0] at ht
  obtain ⟨v, hv⟩ : ∃ v, v = unI op E0.t.form E0.i := ⟨_, rfl⟩
  have hcn : ((1 : Nat) : Int) = cnt op := by unfold isUn at hop; unfold cnt; rw [if_pos hop]; rfl
  have hc : (7 ≤ op ∧ op ≤ 22) ∨ (27 ≤ op ∧ op ≤ 33) := by unfold isUn at hop; omega
  have ho : ¬ op = 24 := by unfold isUn at hop; omega
  have HSF := Lib.hid (show ∀ V : World, Below w1.heap.size w1 V → (V.cell? ⟨w.heap.size, 0, none⟩ = some (.int .i64 op) ∧ V.cell? ⟨w.heap.size, 7, none⟩ = some (.slice (some ⟨b, o, none⟩) 1 xc) ∧ V.cell? ⟨b, o, none⟩ = some (.int .i64 E0.op) ∧ V.cell? ⟨b, o + 1, none⟩ = some (.int .i64 E0.t.form) ∧ V.cell? ⟨b, o + 2, none⟩ = some (.int .i64 E0.t.num) ∧ V.cell? ⟨b, o + 3, none⟩ = some (.string E0.t.name) ∧ V.cell? ⟨b, o + 4, none⟩ = some (tu) ∧ V.cell? ⟨b, o + 5, none⟩ = some (.int .i32 E0.i) ∧ V.cell? ⟨b, o + 6, none⟩ = some (.string E0.s) ∧ V.cell? ⟨b, o + 7, none⟩ = some (xu)) from fun V hb => ⟨cell_below hb (Nat.le_refl _) ((cell_of_row w1 _ 0 _ _ _ HE.out).trans rfl), cell_below hb (Nat.le_refl _) ((cell_of_row w1 _ 7 _ _ _ HE.out).trans rfl), cell_below hb (Nat.le_refl _) (by simpa using hc0.c0), cell_below hb (Nat.le_refl _) (by simpa using hc0.c1), cell_below hb (Nat.le_refl _) (by simpa using hc0.c2), cell_below hb (Nat.le_refl _) (by simpa using hc0.c3), cell_below hb (Nat.le_refl _) (by simpa using hc0.c4), cell_below hb (Nat.le_refl _) (by simpa using hc0.c5), cell_below hb (Nat.le_refl _) (by simpa using hc0.c6), cell_below hb (Nat.le_refl _) (by simpa using hc0.c7)⟩)
  have HA := Lib.hid ha
  have HT := Lib.hid ht
  have HCC := Lib.hid (show (1 : Int) = cnt op from hcn)
  have HV := Lib.hid hv
  have HFI := Lib.hid hfi
  have HOP := Lib.hid hop
  clear hcc hok0 hc0 hE0 hb01 hw1 hs1 hx ha ht hv hfi hop hcn
  go_enter Try.func13, Try.ntmps13
  go_wp2_with (go_at_call 22; refine (count_c _ _ _ hc HCC.out).mono ?_; rintro en w2 ⟨rfl, rfl⟩)
  rw [← HW1.out]
  refine (all_prog w1 (some ⟨b, o, none⟩) 1 xc x HX.out h1 h2).mono ?_
  rintro en w2 ⟨rfl, hbn⟩
  have hbw2 : Below w1.heap.size w1 w2 := hbn
  clear hbn
  rw [HA.out]
  have he := HE.out
  rw [← hbw2.block _ (by rw [HS1.out]; omega)] at he
  have hz := HZ.out
  rw [← hbw2.block _ (by rw [HS1.out]; omega)] at hz
  have e0 : w2.cell? ⟨w.heap.size, 0, none⟩ = some (.int .i64 op) := (cell_of_row w2 _ 0 _ _ _ he).trans rfl
  have e1 : w2.cell? ⟨w.heap.size, 1, none⟩ = some (.int .i64 f) := (cell_of_row w2 _ 1 _ _ _ he).trans rfl
  have e2 : w2.cell? ⟨w.heap.size, 2, none⟩ = some (.int .i64 n) := (cell_of_row w2 _ 2 _ _ _ he).trans rfl
  have e3 : w2.cell? ⟨w.heap.size, 3, none⟩ = some (.string nm) := (cell_of_row w2 _ 3 _ _ _ he).trans rfl
  have e4 : w2.cell? ⟨w.heap.size, 4, none⟩ = some (.slice ta tk tc) := (cell_of_row w2 _ 4 _ _ _ he).trans rfl
  have e5 : w2.cell? ⟨w.heap.size, 5, none⟩ = some (.int .i32 i) := (cell_of_row w2 _ 5 _ _ _ he).trans rfl
  have e6 : w2.cell? ⟨w.heap.size, 6, none⟩ = some (.string s) := (cell_of_row w2 _ 6 _ _ _ he).trans rfl
  have e7 : w2.cell? ⟨w.heap.size, 7, none⟩ = some (.slice (some ⟨b, o, none⟩) 1 xc) := (cell_of_row w2 _ 7 _ _ _ he).trans rfl
  have z0 : w2.cell? ⟨w.heap.size + 1, 0, none⟩ = some (.int .i64 0) := (cell_of_row w2 _ 0 _ _ _ hz).trans rfl
  have zf0 := frozen_of_row w2 (w.heap.size + 1) 0 _ _ hz
  have z1 : w2.cell? ⟨w.heap.size + 1, 1, none⟩ = some (.int .i64 0) := (cell_of_row w2 _ 1 _ _ _ hz).trans rfl
  have zf1 := frozen_of_row w2 (w.heap.size + 1) 1 _ _ hz
  have z2 : w2.cell? ⟨w.heap.size + 1, 2, none⟩ = some (.int .i64 0) := (cell_of_row w2 _ 2 _ _ _ hz).trans rfl
  have zf2 := frozen_of_row w2 (w.heap.size + 1) 2 _ _ hz
  have z3 : w2.cell? ⟨w.heap.size + 1, 3, none⟩ = some (.string { data := #[] }) := (cell_of_row w2 _ 3 _ _ _ hz).trans rfl
  have zf3 := frozen_of_row w2 (w.heap.size + 1) 3 _ _ hz
  have z4 : w2.cell? ⟨w.heap.size + 1, 4, none⟩ = some (.slice none 0 0) := (cell_of_row w2 _ 4 _ _ _ hz).trans rfl
  have zf4 := frozen_of_row w2 (w.heap.size + 1) 4 _ _ hz
  have z5 : w2.cell? ⟨w.heap.size + 1, 5, none⟩ = some (.int .i32 0) := (cell_of_row w2 _ 5 _ _ _ hz).trans rfl
  have zf5 := frozen_of_row w2 (w.heap.size + 1) 5 _ _ hz
  have z6 : w2.cell? ⟨w.heap.size + 1, 6, none⟩ = some (.string { data := #[] }) := (cell_of_row w2 _ 6 _ _ _ hz).trans rfl
  have zf6 := frozen_of_row w2 (w.heap.size + 1) 6 _ _ hz
  have z7 : w2.cell? ⟨w.heap.size + 1, 7, none⟩ = some (.slice none 0 0) := (cell_of_row w2 _ 7 _ _ _ hz).trans rfl
  have zf7 := frozen_of_row w2 (w.heap.size + 1) 7 _ _ hz
  have HSMw2 := Lib.hid (show ∀ j, j < 8 → (w2.cell? ⟨w.heap.size + 1, j, none⟩).isSome = true from fun j hj => some8 hz j hj)
  have HBw2 := Lib.hid hbw2
  have hzw2 := hbw2.size
  clear he hz hbw2
  go_wp2_with fail
  obtain ⟨w3, hwd⟩ : ∃ w3 : World, w3 = w2.drew := ⟨_, rfl⟩
  have HWD := Lib.hid hwd
  have hbw3 : Below w1.heap.size w1 w3 := by rw [hwd]; exact below_drewN HBw2.out 1
  clear hwd
  have HBw3 := Lib.hid hbw3
  clear hbw3
  have HS := Lib.hid (show (fun W : World => (W.cell? ⟨w.heap.size, 0, none⟩ = some (.int .i64 op) ∧ W.cell? ⟨w.heap.size, 7, none⟩ = some (.slice (some ⟨b, o, none⟩) 1 xc) ∧ W.cell? ⟨b, o, none⟩ = some (.int .i64 E0.op) ∧ W.cell? ⟨b, o + 1, none⟩ = some (.int .i64 E0.t.form) ∧ W.cell? ⟨b, o + 2, none⟩ = some (.int .i64 E0.t.num) ∧ W.cell? ⟨b, o + 3, none⟩ = some (.string E0.t.name) ∧ W.cell? ⟨b, o + 4, none⟩ = some (tu) ∧ W.cell? ⟨b, o + 5, none⟩ = some (.int .i32 E0.i) ∧ W.cell? ⟨b, o + 6, none⟩ = some (.string E0.s) ∧ W.cell? ⟨b, o + 7, none⟩ = some (xu))) w3 from HSF.out w3 HBw3.out)
  have HON := Lib.hid (one_prog w3 op E0 tu xu HFI.out HOP.out)
  rw [HT.out, ← HV.out] at HON
  unfold exV at HON
  refine wp_region_till 11 (fun W => (W.cell? ⟨w.heap.size, 0, none⟩ = some (.int .i64 op) ∧ W.cell? ⟨w.heap.size, 7, none⟩ = some (.slice (some ⟨b, o, none⟩) 1 xc) ∧ W.cell? ⟨b, o, none⟩ = some (.int .i64 E0.op) ∧ W.cell? ⟨b, o + 1, none⟩ = some (.int .i64 E0.t.form) ∧ W.cell? ⟨b, o + 2, none⟩ = some (.int .i64 E0.t.num) ∧ W.cell? ⟨b, o + 3, none⟩ = some (.string E0.t.name) ∧ W.cell? ⟨b, o + 4, none⟩ = some (tu) ∧ W.cell? ⟨b, o + 5, none⟩ = some (.int .i32 E0.i) ∧ W.cell? ⟨b, o + 6, none⟩ = some (.string E0.s) ∧ W.cell? ⟨b, o + 7, none⟩ = some (xu))) (by as_aux_lemma => kernel_rfl) ?_
  rw [← HWD.out]
  (refine wpAnyT_take (i := 0) (oi := ?_) (v := ?_) ?_ (by as_aux_lemma => kernel_rfl) (by as_aux_lemma => kernel_rfl) (by as_aux_lemma => kernel_rfl) (by as_aux_lemma => kernel_rfl) ?_ (Or.inl ⟨?_, ?_⟩) HS.out ?_; rotate_left 2; (focus (simp only [List.getElem?_toArray, List.getElem?_cons_succ, List.getElem?_cons_zero] <;> rfl)); (focus exact (fun _ _ _ h => h)); (focus rfl); (focus (intro w hSw; (try dsimp only at hSw); go_simp; try (with_reducible rfl))))
  (try simp only [Act.put, List.setIfInBounds_toArray, List.set_cons_zero, List.set_cons_succ])
  (refine wpAnyT_take (i := 1) (oi := ?_) (v := ?_) ?_ (by as_aux_lemma => kernel_rfl) (by as_aux_lemma => kernel_rfl) (by as_aux_lemma => kernel_rfl) (by as_aux_lemma => kernel_rfl) ?_ (Or.inl ⟨?_, ?_⟩) HS.out ?_; rotate_left 2; (focus (simp only [List.getElem?_toArray, List.getElem?_cons_succ, List.getElem?_cons_zero] <;> rfl)); (focus exact (fun _ _ _ h => h)); (focus rfl); (focus (intro w hSw; (try dsimp only at hSw); go_simp; try (with_reducible rfl))))
  (try simp only [Act.put, List.setIfInBounds_toArray, List.set_cons_zero, List.set_cons_succ])
  (refine wpAnyT_take (i := 2) (oi := ?_) (v := ?_) ?_ (by as_aux_lemma => kernel_rfl) (by as_aux_lemma => kernel_rfl) (by as_aux_lemma => kernel_rfl) (by as_aux_lemma => kernel_rfl) ?_ (Or.inl ⟨?_, ?_⟩) HS.out ?_; rotate_left 2; (focus (simp only [List.getElem?_toArray, List.getElem?_cons_succ, List.getElem?_cons_zero] <;> rfl)); (focus exact (fun _ _ _ h => h)); (focus rfl); (focus (intro w hSw; (try dsimp only at hSw); go_simp; try (with_reducible rfl))))
  (try simp only [Act.put, List.setIfInBounds_toArray, List.set_cons_zero, List.set_cons_succ])
  (refine wpAnyT_take (i := 3) (oi := ?_) (v := ?_) ?_ (by as_aux_lemma => kernel_rfl) (by as_aux_lemma => kernel_rfl) (by as_aux_lemma => kernel_rfl) (by as_aux_lemma => kernel_rfl) ?_ (Or.inl ⟨?_, ?_⟩) HS.out ?_; rotate_left 2; (focus (simp only [List.getElem?_toArray, List.getElem?_cons_succ, List.getElem?_cons_zero] <;> rfl)); (focus exact (fun _ _ _ h => h)); (focus rfl); (focus (intro w hSw; (try dsimp only at hSw); go_simp; try (with_reducible rfl))))
  (try simp only [Act.put, List.setIfInBounds_toArray, List.set_cons_zero, List.set_cons_succ])
  (refine wpAnyT_take (i := 4) (oi := ?_) (v := ?_) ?_ (by as_aux_lemma => kernel_rfl) (by as_aux_lemma => kernel_rfl) (by as_aux_lemma => kernel_rfl) (by as_aux_lemma => kernel_rfl) ?_ (Or.inl ⟨?_, ?_⟩) HS.out ?_; rotate_left 2; (focus (simp only [List.getElem?_toArray, List.getElem?_cons_succ, List.getElem?_cons_zero] <;> rfl)); (focus exact (fun _ _ _ h => h)); (focus rfl); (focus (intro w hSw; (try dsimp only at hSw); go_simp; try (with_reducible rfl))))
  (try simp only [Act.put, List.setIfInBounds_toArray, List.set_cons_zero, List.set_cons_succ])
  (refine wpAnyT_take (i := 5) (oi := ?_) (v := ?_) ?_ (by as_aux_lemma => kernel_rfl) (by as_aux_lemma => kernel_rfl) (by as_aux_lemma => kernel_rfl) (by as_aux_lemma => kernel_rfl) ?_ (Or.inl ⟨?_, ?_⟩) HS.out ?_; rotate_left 2; (focus (simp only [List.getElem?_toArray, List.getElem?_cons_succ, List.getElem?_cons_zero] <;> rfl)); (focus exact (fun _ _ _ h => h)); (focus rfl); (focus (intro w hSw; (try dsimp only at hSw); go_simp; try (with_reducible rfl))))
  (try simp only [Act.put, List.setIfInBounds_toArray, List.set_cons_zero, List.set_cons_succ])
  (refine wpAnyT_one (i := 6) (oi := ?_) ?_ (by as_aux_lemma => kernel_rfl) (fun K hK => ?_); rotate_left; (focus (simp only [List.getElem?_toArray, List.getElem?_cons_succ, List.getElem?_cons_zero] <;> rfl)))
  go_simp
  refine HON.out.mono ?_
  rintro en w4 ⟨rfl, hbn⟩
  have hbw4 : Below w1.heap.size w1 w4 := HBw3.out.trans (hbn.mono HBw3.out.size)
  have HBw4 := Lib.hid hbw4
  have HS4 := Lib.hid (show (fun W : World => (W.cell? ⟨w.heap.size, 0, none⟩ = some (.int .i64 op) ∧ W.cell? ⟨w.heap.size, 7, none⟩ = some (.slice (some ⟨b, o, none⟩) 1 xc) ∧ W.cell? ⟨b, o, none⟩ = some (.int .i64 E0.op) ∧ W.cell? ⟨b, o + 1, none⟩ = some (.int .i64 E0.t.form) ∧ W.cell? ⟨b, o + 2, none⟩ = some (.int .i64 E0.t.num) ∧ W.cell? ⟨b, o + 3, none⟩ = some (.string E0.t.name) ∧ W.cell? ⟨b, o + 4, none⟩ = some (tu) ∧ W.cell? ⟨b, o + 5, none⟩ = some (.int .i32 E0.i) ∧ W.cell? ⟨b, o + 6, none⟩ = some (.string E0.s) ∧ W.cell? ⟨b, o + 7, none⟩ = some (xu))) w4 from HSF.out w4 HBw4.out)
  refine hK.out _ _ HS4.out ?_
  clear hK K hbn
  (try simp only [Act.put, List.setIfInBounds_toArray, List.set_cons_zero, List.set_cons_succ])
  (refine wpAnyT_take (i := 7) (oi := ?_) (v := ?_) ?_ (by as_aux_lemma => kernel_rfl) (by as_aux_lemma => kernel_rfl) (by as_aux_lemma => kernel_rfl) (by as_aux_lemma => kernel_rfl) ?_ (Or.inl ⟨?_, ?_⟩) HS4.out ?_; rotate_left 2; (focus (simp only [List.getElem?_toArray, List.getElem?_cons_succ, List.getElem?_cons_zero] <;> rfl)); (focus exact (fun _ _ _ h => h)); (focus rfl); (focus (intro w hSw; (try dsimp only at hSw); go_simp; try (with_reducible rfl))))
  (try simp only [Act.put, List.setIfInBounds_toArray, List.set_cons_zero, List.set_cons_succ])
  (refine wpAnyT_take (i := 8) (oi := ?_) (v := ?_) ?_ (by as_aux_lemma => kernel_rfl) (by as_aux_lemma => kernel_rfl) (by as_aux_lemma => kernel_rfl) (by as_aux_lemma => kernel_rfl) ?_ (Or.inl ⟨?_, ?_⟩) HS4.out ?_; rotate_left 2; (focus (simp only [List.getElem?_toArray, List.getElem?_cons_succ, List.getElem?_cons_zero] <;> rfl)); (focus exact (fun _ _ _ h => h)); (focus rfl); (focus (intro w hSw; (try dsimp only at hSw); go_simp; try (with_reducible rfl))))
  (try simp only [Act.put, List.setIfInBounds_toArray, List.set_cons_zero, List.set_cons_succ])
  (refine wpAnyT_take (i := 9) (oi := ?_) (v := ?_) ?_ (by as_aux_lemma => kernel_rfl) (by as_aux_lemma => kernel_rfl) (by as_aux_lemma => kernel_rfl) (by as_aux_lemma => kernel_rfl) ?_ (Or.inl ⟨?_, ?_⟩) HS4.out ?_; rotate_left 2; (focus (simp only [List.getElem?_toArray, List.getElem?_cons_succ, List.getElem?_cons_zero] <;> rfl)); (focus exact (fun _ _ _ h => h)); (focus rfl); (focus (intro w hSw; (try dsimp only at hSw); go_simp; try (with_reducible rfl))))
  (try simp only [Act.put, List.setIfInBounds_toArray, List.set_cons_zero, List.set_cons_succ])
  (refine wpAnyT_take (i := 10) (oi := ?_) (v := ?_) ?_ (by as_aux_lemma => kernel_rfl) (by as_aux_lemma => kernel_rfl) (by as_aux_lemma => kernel_rfl) (by as_aux_lemma => kernel_rfl) ?_ (Or.inl ⟨?_, ?_⟩) HS4.out ?_; rotate_left 2; (focus (simp only [List.getElem?_toArray, List.getElem?_cons_succ, List.getElem?_cons_zero] <;> rfl)); (focus exact (fun _ _ _ h => h)); (focus rfl); (focus (intro w hSw; (try dsimp only at hSw); go_simp; try (with_reducible rfl))))
  (try simp only [Act.put, List.setIfInBounds_toArray, List.set_cons_zero, List.set_cons_succ])
  (refine wpAnyT_late (i := 11) (oi := ?_) ?_ (by as_aux_lemma => kernel_rfl) (by as_aux_lemma => kernel_rfl) (fun K hK => ?_); rotate_left; (focus (simp only [List.getElem?_toArray, List.getElem?_cons_succ, List.getElem?_cons_zero] <;> rfl)))
  go_simp
  refine hK.out _ _ ?_
  clear hK K
  refine wpAnyT_done (by as_aux_lemma => kernel_rfl) ?_ _
  clear e0 e1 e2 e3 e4 e5 e6 e7
  clear z0 zf0 z1 zf1 z2 zf2 z3 zf3 z4 zf4 z5 zf5 z6 zf6 z7 zf7
  have he := HE.out
  rw [← hbw4.block _ (by rw [HS1.out]; omega)] at he
  have hz := HZ.out
  rw [← hbw4.block _ (by rw [HS1.out]; omega)] at hz
  have e0 : w4.cell? ⟨w.heap.size, 0, none⟩ = some (.int .i64 op) := (cell_of_row w4 _ 0 _ _ _ he).trans rfl
  have e1 : w4.cell? ⟨w.heap.size, 1, none⟩ = some (.int .i64 f) := (cell_of_row w4 _ 1 _ _ _ he).trans rfl
  have e2 : w4.cell? ⟨w.heap.size, 2, none⟩ = some (.int .i64 n) := (cell_of_row w4 _ 2 _ _ _ he).trans rfl
  have e3 : w4.cell? ⟨w.heap.size, 3, none⟩ = some (.string nm) := (cell_of_row w4 _ 3 _ _ _ he).trans rfl
  have e4 : w4.cell? ⟨w.heap.size, 4, none⟩ = some (.slice ta tk tc) := (cell_of_row w4 _ 4 _ _ _ he).trans rfl
  have e5 : w4.cell? ⟨w.heap.size, 5, none⟩ = some (.int .i32 i) := (cell_of_row w4 _ 5 _ _ _ he).trans rfl
  have e6 : w4.cell? ⟨w.heap.size, 6, none⟩ = some (.string s) := (cell_of_row w4 _ 6 _ _ _ he).trans rfl
  have e7 : w4.cell? ⟨w.heap.size, 7, none⟩ = some (.slice (some ⟨b, o, none⟩) 1 xc) := (cell_of_row w4 _ 7 _ _ _ he).trans rfl
  have z0 : w4.cell? ⟨w.heap.size + 1, 0, none⟩ = some (.int .i64 0) := (cell_of_row w4 _ 0 _ _ _ hz).trans rfl
  have zf0 := frozen_of_row w4 (w.heap.size + 1) 0 _ _ hz
  have z1 : w4.cell? ⟨w.heap.size + 1, 1, none⟩ = some (.int .i64 0) := (cell_of_row w4 _ 1 _ _ _ hz).trans rfl
  have zf1 := frozen_of_row w4 (w.heap.size + 1) 1 _ _ hz
  have z2 : w4.cell? ⟨w.heap.size + 1, 2, none⟩ = some (.int .i64 0) := (cell_of_row w4 _ 2 _ _ _ hz).trans rfl
  have zf2 := frozen_of_row w4 (w.heap.size + 1) 2 _ _ hz
  have z3 : w4.cell? ⟨w.heap.size + 1, 3, none⟩ = some (.string { data := #[] }) := (cell_of_row w4 _ 3 _ _ _ hz).trans rfl
  have zf3 := frozen_of_row w4 (w.heap.size + 1) 3 _ _ hz
  have z4 : w4.cell? ⟨w.heap.size + 1, 4, none⟩ = some (.slice none 0 0) := (cell_of_row w4 _ 4 _ _ _ hz).trans rfl
  have zf4 := frozen_of_row w4 (w.heap.size + 1) 4 _ _ hz
  have z5 : w4.cell? ⟨w.heap.size + 1, 5, none⟩ = some (.int .i32 0) := (cell_of_row w4 _ 5 _ _ _ hz).trans rfl
  have zf5 := frozen_of_row w4 (w.heap.size + 1) 5 _ _ hz
  have z6 : w4.cell? ⟨w.heap.size + 1, 6, none⟩ = some (.string { data := #[] }) := (cell_of_row w4 _ 6 _ _ _ hz).trans rfl
  have zf6 := frozen_of_row w4 (w.heap.size + 1) 6 _ _ hz
  have z7 : w4.cell? ⟨w.heap.size + 1, 7, none⟩ = some (.slice none 0 0) := (cell_of_row w4 _ 7 _ _ _ hz).trans rfl
  have zf7 := frozen_of_row w4 (w.heap.size + 1) 7 _ _ hz
  have HSMw4 := Lib.hid (show ∀ j, j < 8 → (w4.cell? ⟨w.heap.size + 1, j, none⟩).isSome = true from fun j hj => some8 hz j hj)
  have hzw4 := hbw4.size
  clear he hz hbw4
  go_wp2_with fail
  exact bodyPost_ret (v := .tuple #[.agg #[.int .i64 0, .int .i64 0, .int .i64 0, .string ByteArray.empty, .slice none 0 0, .int .i32 0, .string ByteArray.empty, .slice none 0 0], .int .i64 (33)]) (by simp [results, Try.results13, go_sem, HSMw4.out 0, HSMw4.out 1, HSMw4.out 2, HSMw4.out 3, HSMw4.out 4, HSMw4.out 5, HSMw4.out 6, HSMw4.out 7]; try rfl) rfl ⟨rfl, below_set8n (HB01.out.trans (HBw4.out.mono (by rw [HS1.out]; omega))) (by omega) _ _ _ _ _ _ _ _⟩

set_option maxHeartbeats 6400000 in
theorem fexpr_two1 (w : World) (op f n i : Int) (nm s : ByteArray) (tk tc xc b o : Nat) (ta : Option Addr) (x : Nat → Ex) (hx : ExsAt w (some ⟨b, o, none⟩) 2 x) (h1 : 2 ≤ xc) (h2 : xc ≤ 9223372036854775807) (hop : isBi op) (hfi : -2147483648 ≤ (x 0).i ∧ (x 0).i ≤ 2147483647) (hfi1 : -2147483648 ≤ (x 1).i ∧ (x 1).i ≤ 2147483647) (ha : allC 2 x = true) (ht : biB op (x 0).t.form (x 1).i = true) : Calls Try.prog 13 #[.agg #[.int .i64 op, .int .i64 f, .int .i64 n, .string nm, .slice ta tk tc, .int .i32 i, .string s, .slice (some ⟨b, o, none⟩) 2 xc]] w fun en w' => en = .returned (.tuple #[.agg #[.int .i64 0, .int .i64 f, .int .i64 0, .string ByteArray.empty, .slice none 0 0, .int .i32 (biI op (x 0).t.form (x 0).i (x 1).i), .string ByteArray.empty, .slice none 0 0], .int .i64 (0)]) ∧ Below w.heap.size w w' := by
  obtain ⟨w1, hw1⟩ : ∃ w1 : World, w1 = (w.alloc (.cells #[.int .i64 op, .int .i64 f, .int .i64 n, .string nm, .slice ta tk tc, .int .i32 i, .string s, .slice (some ⟨b, o, none⟩) 2 xc] 27)).alloc (.cells #[.int .i64 0, .int .i64 0, .int .i64 0, .string { data := #[] }, .slice none 0 0, .int .i32 0, .string { data := #[] }, .slice none 0 0] 27) := ⟨_, rfl⟩
  have hs1 : w1.heap.size = w.heap.size + 2 := by rw [hw1]; simp
  have HE := Lib.hid (show w1.heap[w.heap.size]? = some (.cells #[.int .i64 op, .int .i64 f, .int .i64 n, .string nm, .slice ta tk tc, .int .i32 i, .string s, .slice (some ⟨b, o, none⟩) 2 xc] 27 (0, 0)) from by rw [hw1]; exact heap_alloc2_old w _ _)
  have HZ := Lib.hid (show w1.heap[w.heap.size + 1]? = some (.cells #[.int .i64 0, .int .i64 0, .int .i64 0, .string { data := #[] }, .slice none 0 0, .int .i32 0, .string { data := #[] }, .slice none 0 0] 27 (0, 0)) from by rw [hw1]; exact heap_alloc2_new w _ _)
  have hb01 : Below w.heap.size w w1 := by rw [hw1]; exact ((Below.refl _ _).alloc (Nat.le_refl _) _).alloc (by simp) _
  have HB01 := Lib.hid hb01
  have HX := Lib.hid (hx.below hb01 (Nat.le_refl _))
  have HW1 := Lib.hid hw1
  have HS1 := Lib.hid hs1
  obtain ⟨b', o', hbo, hcc⟩ := HX.out (by decide)
  cases hbo
  obtain ⟨tu, xu, hok0, hc0⟩ := hcc 0 (by decide)
  obtain ⟨E0, hE0⟩ : ∃ E0, E0 = x 0 := ⟨_, rfl⟩
  obtain ⟨tu1, xu1, hok1, hc1⟩ := hcc 1 (by decide)
  obtain ⟨E1, hE1⟩ : ∃ E1, E1 = x 1 := ⟨_, rfl⟩
  rw [← hE1] at hok1 hc1 ⊢
  rw [← hE1] at hfi1
  rw [← hE0] at hok0 hc0 ⊢
  rw [← hE0] at hfi
  rw [← hE0, ← hE1] at ht
  obtain ⟨v, hv⟩ : ∃ v, v = biI op E0.t.form E0.i E1.i := ⟨_, rfl⟩
  rw [← hv]
  have hcn : ((2 : Nat) : Int) = cnt op := by unfold isBi at hop; unfold cnt; rw [if_neg (by omega), if_pos hop]; rfl
  have hc : (7 ≤ op ∧ op ≤ 22) ∨ (27 ≤ op ∧ op ≤ 33) := by unfold isBi at hop; omega
  have ho : ¬ op = 24 := by unfold isBi at hop; omega
  have HSF := Lib.hid (show ∀ V : World, Below w1.heap.size w1 V → (V.cell? ⟨w.heap.size, 0, none⟩ = some (.int .i64 op) ∧ V.cell? ⟨w.heap.size, 7, none⟩ = some (.slice (some ⟨b, o, none⟩) 2 xc) ∧ (V.cell? ⟨b, o, none⟩ = some (.int .i64 E0.op) ∧ V.cell? ⟨b, o + 1, none⟩ = some (.int .i64 E0.t.form) ∧ V.cell? ⟨b, o + 2, none⟩ = some (.int .i64 E0.t.num) ∧ V.cell? ⟨b, o + 3, none⟩ = some (.string E0.t.name) ∧ V.cell? ⟨b, o + 4, none⟩ = some (tu) ∧ V.cell? ⟨b, o + 5, none⟩ = some (.int .i32 E0.i) ∧ V.cell? ⟨b, o + 6, none⟩ = some (.string E0.s) ∧ V.cell? ⟨b, o + 7, none⟩ = some (xu)) ∧ V.cell? ⟨b, o + 8, none⟩ = some (.int .i64 E1.op) ∧ V.cell? ⟨b, o + 9, none⟩ = some (.int .i64 E1.t.form) ∧ V.cell? ⟨b, o + 10, none⟩ = some (.int .i64 E1.t.num) ∧ V.cell? ⟨b, o + 11, none⟩ = some (.string E1.t.name) ∧ V.cell? ⟨b, o + 12, none⟩ = some (tu1) ∧ V.cell? ⟨b, o + 13, none⟩ = some (.int .i32 E1.i) ∧ V.cell? ⟨b, o + 14, none⟩ = some (.string E1.s) ∧ V.cell? ⟨b, o + 15, none⟩ = some (xu1)) from fun V hb => ⟨cell_below hb (Nat.le_refl _) ((cell_of_row w1 _ 0 _ _ _ HE.out).trans rfl), cell_below hb (Nat.le_refl _) ((cell_of_row w1 _ 7 _ _ _ HE.out).trans rfl), ⟨cell_below hb (Nat.le_refl _) (by simpa using hc0.c0), cell_below hb (Nat.le_refl _) (by simpa using hc0.c1), cell_below hb (Nat.le_refl _) (by simpa using hc0.c2), cell_below hb (Nat.le_refl _) (by simpa using hc0.c3), cell_below hb (Nat.le_refl _) (by simpa using hc0.c4), cell_below hb (Nat.le_refl _) (by simpa using hc0.c5), cell_below hb (Nat.le_refl _) (by simpa using hc0.c6), cell_below hb (Nat.le_refl _) (by simpa using hc0.c7)⟩, cell_below hb (Nat.le_refl _) (by simpa using hc1.c0), cell_below hb (Nat.le_refl _) (by simpa using hc1.c1), cell_below hb (Nat.le_refl _) (by simpa using hc1.c2), cell_below hb (Nat.le_refl _) (by simpa using hc1.c3), cell_below hb (Nat.le_refl _) (by simpa using hc1.c4), cell_below hb (Nat.le_refl _) (by simpa using hc1.c5), cell_below hb (Nat.le_refl _) (by simpa using hc1.c6), cell_below hb (Nat.le_refl _) (by simpa using hc1.c7)⟩)
  have HA := Lib.hid ha
  have HT := Lib.hid ht
  have HCC := Lib.hid (show (2 : Int) = cnt op from hcn)
  have HV := Lib.hid hv
  have HFI := Lib.hid hfi
  have HFI1 := Lib.hid hfi1
  have HOP := Lib.hid hop
  clear hcc hok0 hc0 hE0 hb01 hw1 hs1 hx ha ht hv hfi hop hcn hok1 hc1 hE1 hfi1
  go_enter Try.func13, Try.ntmps13
  go_wp2_with (go_at_call 22; refine (count_c _ _ _ hc HCC.out).mono ?_; rintro en w2 ⟨rfl, rfl⟩)
  rw [← HW1.out]
  refine (all_prog w1 (some ⟨b, o, none⟩) 2 xc x HX.out h1 h2).mono ?_
  rintro en w2 ⟨rfl, hbn⟩
  have hbw2 : Below w1.heap.size w1 w2 := hbn
  clear hbn
  rw [HA.out]
  have he := HE.out
  rw [← hbw2.block _ (by rw [HS1.out]; omega)] at he
  have hz := HZ.out
  rw [← hbw2.block _ (by rw [HS1.out]; omega)] at hz
  have e0 : w2.cell? ⟨w.heap.size, 0, none⟩ = some (.int .i64 op) := (cell_of_row w2 _ 0 _ _ _ he).trans rfl
  have e1 : w2.cell? ⟨w.heap.size, 1, none⟩ = some (.int .i64 f) := (cell_of_row w2 _ 1 _ _ _ he).trans rfl
  have e2 : w2.cell? ⟨w.heap.size, 2, none⟩ = some (.int .i64 n) := (cell_of_row w2 _ 2 _ _ _ he).trans rfl
  have e3 : w2.cell? ⟨w.heap.size, 3, none⟩ = some (.string nm) := (cell_of_row w2 _ 3 _ _ _ he).trans rfl
  have e4 : w2.cell? ⟨w.heap.size, 4, none⟩ = some (.slice ta tk tc) := (cell_of_row w2 _ 4 _ _ _ he).trans rfl
  have e5 : w2.cell? ⟨w.heap.size, 5, none⟩ = some (.int .i32 i) := (cell_of_row w2 _ 5 _ _ _ he).trans rfl
  have e6 : w2.cell? ⟨w.heap.size, 6, none⟩ = some (.string s) := (cell_of_row w2 _ 6 _ _ _ he).trans rfl
  have e7 : w2.cell? ⟨w.heap.size, 7, none⟩ = some (.slice (some ⟨b, o, none⟩) 2 xc) := (cell_of_row w2 _ 7 _ _ _ he).trans rfl
  have z0 : w2.cell? ⟨w.heap.size + 1, 0, none⟩ = some (.int .i64 0) := (cell_of_row w2 _ 0 _ _ _ hz).trans rfl
  have zf0 := frozen_of_row w2 (w.heap.size + 1) 0 _ _ hz
  have z1 : w2.cell? ⟨w.heap.size + 1, 1, none⟩ = some (.int .i64 0) := (cell_of_row w2 _ 1 _ _ _ hz).trans rfl
  have zf1 := frozen_of_row w2 (w.heap.size + 1) 1 _ _ hz
  have z2 : w2.cell? ⟨w.heap.size + 1, 2, none⟩ = some (.int .i64 0) := (cell_of_row w2 _ 2 _ _ _ hz).trans rfl
  have zf2 := frozen_of_row w2 (w.heap.size + 1) 2 _ _ hz
  have z3 : w2.cell? ⟨w.heap.size + 1, 3, none⟩ = some (.string { data := #[] }) := (cell_of_row w2 _ 3 _ _ _ hz).trans rfl
  have zf3 := frozen_of_row w2 (w.heap.size + 1) 3 _ _ hz
  have z4 : w2.cell? ⟨w.heap.size + 1, 4, none⟩ = some (.slice none 0 0) := (cell_of_row w2 _ 4 _ _ _ hz).trans rfl
  have zf4 := frozen_of_row w2 (w.heap.size + 1) 4 _ _ hz
  have z5 : w2.cell? ⟨w.heap.size + 1, 5, none⟩ = some (.int .i32 0) := (cell_of_row w2 _ 5 _ _ _ hz).trans rfl
  have zf5 := frozen_of_row w2 (w.heap.size + 1) 5 _ _ hz
  have z6 : w2.cell? ⟨w.heap.size + 1, 6, none⟩ = some (.string { data := #[] }) := (cell_of_row w2 _ 6 _ _ _ hz).trans rfl
  have zf6 := frozen_of_row w2 (w.heap.size + 1) 6 _ _ hz
  have z7 : w2.cell? ⟨w.heap.size + 1, 7, none⟩ = some (.slice none 0 0) := (cell_of_row w2 _ 7 _ _ _ hz).trans rfl
  have zf7 := frozen_of_row w2 (w.heap.size + 1) 7 _ _ hz
  have HSMw2 := Lib.hid (show ∀ j, j < 8 → (w2.cell? ⟨w.heap.size + 1, j, none⟩).isSome = true from fun j hj => some8 hz j hj)
  have HBw2 := Lib.hid hbw2
  have hzw2 := hbw2.size
  clear he hz hbw2
  go_wp2_with fail
  obtain ⟨w3, hwd⟩ : ∃ w3 : World, w3 = w2.drew := ⟨_, rfl⟩
  have HWD := Lib.hid hwd
  have hbw3 : Below w1.heap.size w1 w3 := by rw [hwd]; exact below_drewN HBw2.out 1
  clear hwd
  have HBw3 := Lib.hid hbw3
  clear hbw3
  have HS := Lib.hid (show (fun W : World => (W.cell? ⟨w.heap.size, 0, none⟩ = some (.int .i64 op) ∧ W.cell? ⟨w.heap.size, 7, none⟩ = some (.slice (some ⟨b, o, none⟩) 2 xc) ∧ (W.cell? ⟨b, o, none⟩ = some (.int .i64 E0.op) ∧ W.cell? ⟨b, o + 1, none⟩ = some (.int .i64 E0.t.form) ∧ W.cell? ⟨b, o + 2, none⟩ = some (.int .i64 E0.t.num) ∧ W.cell? ⟨b, o + 3, none⟩ = some (.string E0.t.name) ∧ W.cell? ⟨b, o + 4, none⟩ = some (tu) ∧ W.cell? ⟨b, o + 5, none⟩ = some (.int .i32 E0.i) ∧ W.cell? ⟨b, o + 6, none⟩ = some (.string E0.s) ∧ W.cell? ⟨b, o + 7, none⟩ = some (xu)) ∧ W.cell? ⟨b, o + 8, none⟩ = some (.int .i64 E1.op) ∧ W.cell? ⟨b, o + 9, none⟩ = some (.int .i64 E1.t.form) ∧ W.cell? ⟨b, o + 10, none⟩ = some (.int .i64 E1.t.num) ∧ W.cell? ⟨b, o + 11, none⟩ = some (.string E1.t.name) ∧ W.cell? ⟨b, o + 12, none⟩ = some (tu1) ∧ W.cell? ⟨b, o + 13, none⟩ = some (.int .i32 E1.i) ∧ W.cell? ⟨b, o + 14, none⟩ = some (.string E1.s) ∧ W.cell? ⟨b, o + 15, none⟩ = some (xu1))) w3 from HSF.out w3 HBw3.out)
  have HON := Lib.hid (two_prog w3 op E0 E1 tu xu tu1 xu1 HFI.out HFI1.out HOP.out)
  rw [HT.out, ← HV.out] at HON
  unfold exV at HON
  refine wp_region_till 15 (fun W => (W.cell? ⟨w.heap.size, 0, none⟩ = some (.int .i64 op) ∧ W.cell? ⟨w.heap.size, 7, none⟩ = some (.slice (some ⟨b, o, none⟩) 2 xc) ∧ (W.cell? ⟨b, o, none⟩ = some (.int .i64 E0.op) ∧ W.cell? ⟨b, o + 1, none⟩ = some (.int .i64 E0.t.form) ∧ W.cell? ⟨b, o + 2, none⟩ = some (.int .i64 E0.t.num) ∧ W.cell? ⟨b, o + 3, none⟩ = some (.string E0.t.name) ∧ W.cell? ⟨b, o + 4, none⟩ = some (tu) ∧ W.cell? ⟨b, o + 5, none⟩ = some (.int .i32 E0.i) ∧ W.cell? ⟨b, o + 6, none⟩ = some (.string E0.s) ∧ W.cell? ⟨b, o + 7, none⟩ = some (xu)) ∧ W.cell? ⟨b, o + 8, none⟩ = some (.int .i64 E1.op) ∧ W.cell? ⟨b, o + 9, none⟩ = some (.int .i64 E1.t.form) ∧ W.cell? ⟨b, o + 10, none⟩ = some (.int .i64 E1.t.num) ∧ W.cell? ⟨b, o + 11, none⟩ = some (.string E1.t.name) ∧ W.cell? ⟨b, o + 12, none⟩ = some (tu1) ∧ W.cell? ⟨b, o + 13, none⟩ = some (.int .i32 E1.i) ∧ W.cell? ⟨b, o + 14, none⟩ = some (.string E1.s) ∧ W.cell? ⟨b, o + 15, none⟩ = some (xu1))) (by as_aux_lemma => kernel_rfl) ?_
  rw [← HWD.out]
  (refine wpAnyT_take (i := 0) (oi := ?_) (v := ?_) ?_ (by as_aux_lemma => kernel_rfl) (by as_aux_lemma => kernel_rfl) (by as_aux_lemma => kernel_rfl) (by as_aux_lemma => kernel_rfl) ?_ (Or.inl ⟨?_, ?_⟩) HS.out ?_; rotate_left 2; (focus (simp only [List.getElem?_toArray, List.getElem?_cons_succ, List.getElem?_cons_zero] <;> rfl)); (focus exact (fun _ _ _ h => h)); (focus rfl); (focus (intro w hSw; (try dsimp only at hSw); go_simp; try (with_reducible rfl))))
  (try simp only [Act.put, List.setIfInBounds_toArray, List.set_cons_zero, List.set_cons_succ])
  (refine wpAnyT_take (i := 1) (oi := ?_) (v := ?_) ?_ (by as_aux_lemma => kernel_rfl) (by as_aux_lemma => kernel_rfl) (by as_aux_lemma => kernel_rfl) (by as_aux_lemma => kernel_rfl) ?_ (Or.inl ⟨?_, ?_⟩) HS.out ?_; rotate_left 2; (focus (simp only [List.getElem?_toArray, List.getElem?_cons_succ, List.getElem?_cons_zero] <;> rfl)); (focus exact (fun _ _ _ h => h)); (focus rfl); (focus (intro w hSw; (try dsimp only at hSw); go_simp; try (with_reducible rfl))))
  (try simp only [Act.put, List.setIfInBounds_toArray, List.set_cons_zero, List.set_cons_succ])
  (refine wpAnyT_take (i := 2) (oi := ?_) (v := ?_) ?_ (by as_aux_lemma => kernel_rfl) (by as_aux_lemma => kernel_rfl) (by as_aux_lemma => kernel_rfl) (by as_aux_lemma => kernel_rfl) ?_ (Or.inl ⟨?_, ?_⟩) HS.out ?_; rotate_left 2; (focus (simp only [List.getElem?_toArray, List.getElem?_cons_succ, List.getElem?_cons_zero] <;> rfl)); (focus exact (fun _ _ _ h => h)); (focus rfl); (focus (intro w hSw; (try dsimp only at hSw); go_simp; try (with_reducible rfl))))
  (try simp only [Act.put, List.setIfInBounds_toArray, List.set_cons_zero, List.set_cons_succ])
  (refine wpAnyT_take (i := 3) (oi := ?_) (v := ?_) ?_ (by as_aux_lemma => kernel_rfl) (by as_aux_lemma => kernel_rfl) (by as_aux_lemma => kernel_rfl) (by as_aux_lemma => kernel_rfl) ?_ (Or.inl ⟨?_, ?_⟩) HS.out ?_; rotate_left 2; (focus (simp only [List.getElem?_toArray, List.getElem?_cons_succ, List.getElem?_cons_zero] <;> rfl)); (focus exact (fun _ _ _ h => h)); (focus rfl); (focus (intro w hSw; (try dsimp only at hSw); go_simp; try (with_reducible rfl))))
  (try simp only [Act.put, List.setIfInBounds_toArray, List.set_cons_zero, List.set_cons_succ])
  (refine wpAnyT_take (i := 4) (oi := ?_) (v := ?_) ?_ (by as_aux_lemma => kernel_rfl) (by as_aux_lemma => kernel_rfl) (by as_aux_lemma => kernel_rfl) (by as_aux_lemma => kernel_rfl) ?_ (Or.inl ⟨?_, ?_⟩) HS.out ?_; rotate_left 2; (focus (simp only [List.getElem?_toArray, List.getElem?_cons_succ, List.getElem?_cons_zero] <;> rfl)); (focus exact (fun _ _ _ h => h)); (focus rfl); (focus (intro w hSw; (try dsimp only at hSw); go_simp; try (with_reducible rfl))))
  (try simp only [Act.put, List.setIfInBounds_toArray, List.set_cons_zero, List.set_cons_succ])
  (refine wpAnyT_take (i := 5) (oi := ?_) (v := ?_) ?_ (by as_aux_lemma => kernel_rfl) (by as_aux_lemma => kernel_rfl) (by as_aux_lemma => kernel_rfl) (by as_aux_lemma => kernel_rfl) ?_ (Or.inl ⟨?_, ?_⟩) HS.out ?_; rotate_left 2; (focus (simp only [List.getElem?_toArray, List.getElem?_cons_succ, List.getElem?_cons_zero] <;> rfl)); (focus exact (fun _ _ _ h => h)); (focus rfl); (focus (intro w hSw; (try dsimp only at hSw); go_simp; try (with_reducible rfl))))
  (try simp only [Act.put, List.setIfInBounds_toArray, List.set_cons_zero, List.set_cons_succ])
  (refine wpAnyT_take (i := 6) (oi := ?_) (v := ?_) ?_ (by as_aux_lemma => kernel_rfl) (by as_aux_lemma => kernel_rfl) (by as_aux_lemma => kernel_rfl) (by as_aux_lemma => kernel_rfl) ?_ (Or.inl ⟨?_, ?_⟩) HS.out ?_; rotate_left 2; (focus (simp only [List.getElem?_toArray, List.getElem?_cons_succ, List.getElem?_cons_zero] <;> rfl)); (focus exact (fun _ _ _ h => h)); (focus rfl); (focus (intro w hSw; (try dsimp only at hSw); go_simp; try (with_reducible rfl))))
  (try simp only [Act.put, List.setIfInBounds_toArray, List.set_cons_zero, List.set_cons_succ])
  (refine wpAnyT_take (i := 7) (oi := ?_) (v := ?_) ?_ (by as_aux_lemma => kernel_rfl) (by as_aux_lemma => kernel_rfl) (by as_aux_lemma => kernel_rfl) (by as_aux_lemma => kernel_rfl) ?_ (Or.inl ⟨?_, ?_⟩) HS.out ?_; rotate_left 2; (focus (simp only [List.getElem?_toArray, List.getElem?_cons_succ, List.getElem?_cons_zero] <;> rfl)); (focus exact (fun _ _ _ h => h)); (focus rfl); (focus (intro w hSw; (try dsimp only at hSw); go_simp; try (with_reducible rfl))))
  (try simp only [Act.put, List.setIfInBounds_toArray, List.set_cons_zero, List.set_cons_succ])
  (refine wpAnyT_take (i := 8) (oi := ?_) (v := ?_) ?_ (by as_aux_lemma => kernel_rfl) (by as_aux_lemma => kernel_rfl) (by as_aux_lemma => kernel_rfl) (by as_aux_lemma => kernel_rfl) ?_ (Or.inl ⟨?_, ?_⟩) HS.out ?_; rotate_left 2; (focus (simp only [List.getElem?_toArray, List.getElem?_cons_succ, List.getElem?_cons_zero] <;> rfl)); (focus exact (fun _ _ _ h => h)); (focus rfl); (focus (intro w hSw; (try dsimp only at hSw); go_simp; try (with_reducible rfl))))
  (try simp only [Act.put, List.setIfInBounds_toArray, List.set_cons_zero, List.set_cons_succ])
  (refine wpAnyT_take (i := 9) (oi := ?_) (v := ?_) ?_ (by as_aux_lemma => kernel_rfl) (by as_aux_lemma => kernel_rfl) (by as_aux_lemma => kernel_rfl) (by as_aux_lemma => kernel_rfl) ?_ (Or.inl ⟨?_, ?_⟩) HS.out ?_; rotate_left 2; (focus (simp only [List.getElem?_toArray, List.getElem?_cons_succ, List.getElem?_cons_zero] <;> rfl)); (focus exact (fun _ _ _ h => h)); (focus rfl); (focus (intro w hSw; (try dsimp only at hSw); go_simp; try (with_reducible rfl))))
  (try simp only [Act.put, List.setIfInBounds_toArray, List.set_cons_zero, List.set_cons_succ])
  (refine wpAnyT_one (i := 10) (oi := ?_) ?_ (by as_aux_lemma => kernel_rfl) (fun K hK => ?_); rotate_left; (focus (simp only [List.getElem?_toArray, List.getElem?_cons_succ, List.getElem?_cons_zero] <;> rfl)))
  go_simp
  refine HON.out.mono ?_
  rintro en w4 ⟨rfl, hbn⟩
  have hbw4 : Below w1.heap.size w1 w4 := HBw3.out.trans (hbn.mono HBw3.out.size)
  have HBw4 := Lib.hid hbw4
  have HS4 := Lib.hid (show (fun W : World => (W.cell? ⟨w.heap.size, 0, none⟩ = some (.int .i64 op) ∧ W.cell? ⟨w.heap.size, 7, none⟩ = some (.slice (some ⟨b, o, none⟩) 2 xc) ∧ (W.cell? ⟨b, o, none⟩ = some (.int .i64 E0.op) ∧ W.cell? ⟨b, o + 1, none⟩ = some (.int .i64 E0.t.form) ∧ W.cell? ⟨b, o + 2, none⟩ = some (.int .i64 E0.t.num) ∧ W.cell? ⟨b, o + 3, none⟩ = some (.string E0.t.name) ∧ W.cell? ⟨b, o + 4, none⟩ = some (tu) ∧ W.cell? ⟨b, o + 5, none⟩ = some (.int .i32 E0.i) ∧ W.cell? ⟨b, o + 6, none⟩ = some (.string E0.s) ∧ W.cell? ⟨b, o + 7, none⟩ = some (xu)) ∧ W.cell? ⟨b, o + 8, none⟩ = some (.int .i64 E1.op) ∧ W.cell? ⟨b, o + 9, none⟩ = some (.int .i64 E1.t.form) ∧ W.cell? ⟨b, o + 10, none⟩ = some (.int .i64 E1.t.num) ∧ W.cell? ⟨b, o + 11, none⟩ = some (.string E1.t.name) ∧ W.cell? ⟨b, o + 12, none⟩ = some (tu1) ∧ W.cell? ⟨b, o + 13, none⟩ = some (.int .i32 E1.i) ∧ W.cell? ⟨b, o + 14, none⟩ = some (.string E1.s) ∧ W.cell? ⟨b, o + 15, none⟩ = some (xu1))) w4 from HSF.out w4 HBw4.out)
  refine hK.out _ _ HS4.out ?_
  clear hK K hbn
  (try simp only [Act.put, List.setIfInBounds_toArray, List.set_cons_zero, List.set_cons_succ])
  (refine wpAnyT_take (i := 11) (oi := ?_) (v := ?_) ?_ (by as_aux_lemma => kernel_rfl) (by as_aux_lemma => kernel_rfl) (by as_aux_lemma => kernel_rfl) (by as_aux_lemma => kernel_rfl) ?_ (Or.inl ⟨?_, ?_⟩) HS4.out ?_; rotate_left 2; (focus (simp only [List.getElem?_toArray, List.getElem?_cons_succ, List.getElem?_cons_zero] <;> rfl)); (focus exact (fun _ _ _ h => h)); (focus rfl); (focus (intro w hSw; (try dsimp only at hSw); go_simp; try (with_reducible rfl))))
  (try simp only [Act.put, List.setIfInBounds_toArray, List.set_cons_zero, List.set_cons_succ])
  (refine wpAnyT_take (i := 12) (oi := ?_) (v := ?_) ?_ (by as_aux_lemma => kernel_rfl) (by as_aux_lemma => kernel_rfl) (by as_aux_lemma => kernel_rfl) (by as_aux_lemma => kernel_rfl) ?_ (Or.inl ⟨?_, ?_⟩) HS4.out ?_; rotate_left 2; (focus (simp only [List.getElem?_toArray, List.getElem?_cons_succ, List.getElem?_cons_zero] <;> rfl)); (focus exact (fun _ _ _ h => h)); (focus rfl); (focus (intro w hSw; (try dsimp only at hSw); go_simp; try (with_reducible rfl))))
  (try simp only [Act.put, List.setIfInBounds_toArray, List.set_cons_zero, List.set_cons_succ])
  (refine wpAnyT_take (i := 13) (oi := ?_) (v := ?_) ?_ (by as_aux_lemma => kernel_rfl) (by as_aux_lemma => kernel_rfl) (by as_aux_lemma => kernel_rfl) (by as_aux_lemma => kernel_rfl) ?_ (Or.inl ⟨?_, ?_⟩) HS4.out ?_; rotate_left 2; (focus (simp only [List.getElem?_toArray, List.getElem?_cons_succ, List.getElem?_cons_zero] <;> rfl)); (focus exact (fun _ _ _ h => h)); (focus rfl); (focus (intro w hSw; (try dsimp only at hSw); go_simp; try (with_reducible rfl))))
  (try simp only [Act.put, List.setIfInBounds_toArray, List.set_cons_zero, List.set_cons_succ])
  (refine wpAnyT_take (i := 14) (oi := ?_) (v := ?_) ?_ (by as_aux_lemma => kernel_rfl) (by as_aux_lemma => kernel_rfl) (by as_aux_lemma => kernel_rfl) (by as_aux_lemma => kernel_rfl) ?_ (Or.inl ⟨?_, ?_⟩) HS4.out ?_; rotate_left 2; (focus (simp only [List.getElem?_toArray, List.getElem?_cons_succ, List.getElem?_cons_zero] <;> rfl)); (focus exact (fun _ _ _ h => h)); (focus rfl); (focus (intro w hSw; (try dsimp only at hSw); go_simp; try (with_reducible rfl))))
  (try simp only [Act.put, List.setIfInBounds_toArray, List.set_cons_zero, List.set_cons_succ])
  (refine wpAnyT_late (i := 15) (oi := ?_) ?_ (by as_aux_lemma => kernel_rfl) (by as_aux_lemma => kernel_rfl) (fun K hK => ?_); rotate_left; (focus (simp only [List.getElem?_toArray, List.getElem?_cons_succ, List.getElem?_cons_zero] <;> rfl)))
  go_simp
  refine hK.out _ _ ?_
  clear hK K
  refine wpAnyT_done (by as_aux_lemma => kernel_rfl) ?_ _
  clear e0 e1 e2 e3 e4 e5 e6 e7
  clear z0 zf0 z1 zf1 z2 zf2 z3 zf3 z4 zf4 z5 zf5 z6 zf6 z7 zf7
  have he := HE.out
  rw [← hbw4.block _ (by rw [HS1.out]; omega)] at he
  have hz := HZ.out
  rw [← hbw4.block _ (by rw [HS1.out]; omega)] at hz
  have e0 : w4.cell? ⟨w.heap.size, 0, none⟩ = some (.int .i64 op) := (cell_of_row w4 _ 0 _ _ _ he).trans rfl
  have e1 : w4.cell? ⟨w.heap.size, 1, none⟩ = some (.int .i64 f) := (cell_of_row w4 _ 1 _ _ _ he).trans rfl
  have e2 : w4.cell? ⟨w.heap.size, 2, none⟩ = some (.int .i64 n) := (cell_of_row w4 _ 2 _ _ _ he).trans rfl
  have e3 : w4.cell? ⟨w.heap.size, 3, none⟩ = some (.string nm) := (cell_of_row w4 _ 3 _ _ _ he).trans rfl
  have e4 : w4.cell? ⟨w.heap.size, 4, none⟩ = some (.slice ta tk tc) := (cell_of_row w4 _ 4 _ _ _ he).trans rfl
  have e5 : w4.cell? ⟨w.heap.size, 5, none⟩ = some (.int .i32 i) := (cell_of_row w4 _ 5 _ _ _ he).trans rfl
  have e6 : w4.cell? ⟨w.heap.size, 6, none⟩ = some (.string s) := (cell_of_row w4 _ 6 _ _ _ he).trans rfl
  have e7 : w4.cell? ⟨w.heap.size, 7, none⟩ = some (.slice (some ⟨b, o, none⟩) 2 xc) := (cell_of_row w4 _ 7 _ _ _ he).trans rfl
  have z0 : w4.cell? ⟨w.heap.size + 1, 0, none⟩ = some (.int .i64 0) := (cell_of_row w4 _ 0 _ _ _ hz).trans rfl
  have zf0 := frozen_of_row w4 (w.heap.size + 1) 0 _ _ hz
  have z1 : w4.cell? ⟨w.heap.size + 1, 1, none⟩ = some (.int .i64 0) := (cell_of_row w4 _ 1 _ _ _ hz).trans rfl
  have zf1 := frozen_of_row w4 (w.heap.size + 1) 1 _ _ hz
  have z2 : w4.cell? ⟨w.heap.size + 1, 2, none⟩ = some (.int .i64 0) := (cell_of_row w4 _ 2 _ _ _ hz).trans rfl
  have zf2 := frozen_of_row w4 (w.heap.size + 1) 2 _ _ hz
  have z3 : w4.cell? ⟨w.heap.size + 1, 3, none⟩ = some (.string { data := #[] }) := (cell_of_row w4 _ 3 _ _ _ hz).trans rfl
  have zf3 := frozen_of_row w4 (w.heap.size + 1) 3 _ _ hz
  have z4 : w4.cell? ⟨w.heap.size + 1, 4, none⟩ = some (.slice none 0 0) := (cell_of_row w4 _ 4 _ _ _ hz).trans rfl
  have zf4 := frozen_of_row w4 (w.heap.size + 1) 4 _ _ hz
  have z5 : w4.cell? ⟨w.heap.size + 1, 5, none⟩ = some (.int .i32 0) := (cell_of_row w4 _ 5 _ _ _ hz).trans rfl
  have zf5 := frozen_of_row w4 (w.heap.size + 1) 5 _ _ hz
  have z6 : w4.cell? ⟨w.heap.size + 1, 6, none⟩ = some (.string { data := #[] }) := (cell_of_row w4 _ 6 _ _ _ hz).trans rfl
  have zf6 := frozen_of_row w4 (w.heap.size + 1) 6 _ _ hz
  have z7 : w4.cell? ⟨w.heap.size + 1, 7, none⟩ = some (.slice none 0 0) := (cell_of_row w4 _ 7 _ _ _ hz).trans rfl
  have zf7 := frozen_of_row w4 (w.heap.size + 1) 7 _ _ hz
  have HSMw4 := Lib.hid (show ∀ j, j < 8 → (w4.cell? ⟨w.heap.size + 1, j, none⟩).isSome = true from fun j hj => some8 hz j hj)
  have hzw4 := hbw4.size
  clear he hz hbw4
  go_wp2_with fail
  refine (num_prog w4 f _).mono ?_
  rintro en w5 ⟨he, hbn⟩
  obtain rfl : en = .returned (.agg #[.int .i64 0, .int .i64 f, .int .i64 0, .string ByteArray.empty, .slice none 0 0, .int .i32 (v), .string ByteArray.empty, .slice none 0 0]) := he
  have hbw5 : Below w1.heap.size w1 w5 := HBw4.out.trans (hbn.mono HBw4.out.size)
  clear hbn
  clear e0 e1 e2 e3 e4 e5 e6 e7
  clear z0 zf0 z1 zf1 z2 zf2 z3 zf3 z4 zf4 z5 zf5 z6 zf6 z7 zf7
  have he := HE.out
  rw [← hbw5.block _ (by rw [HS1.out]; omega)] at he
  have hz := HZ.out
  rw [← hbw5.block _ (by rw [HS1.out]; omega)] at hz
  have e0 : w5.cell? ⟨w.heap.size, 0, none⟩ = some (.int .i64 op) := (cell_of_row w5 _ 0 _ _ _ he).trans rfl
  have e1 : w5.cell? ⟨w.heap.size, 1, none⟩ = some (.int .i64 f) := (cell_of_row w5 _ 1 _ _ _ he).trans rfl
  have e2 : w5.cell? ⟨w.heap.size, 2, none⟩ = some (.int .i64 n) := (cell_of_row w5 _ 2 _ _ _ he).trans rfl
  have e3 : w5.cell? ⟨w.heap.size, 3, none⟩ = some (.string nm) := (cell_of_row w5 _ 3 _ _ _ he).trans rfl
  have e4 : w5.cell? ⟨w.heap.size, 4, none⟩ = some (.slice ta tk tc) := (cell_of_row w5 _ 4 _ _ _ he).trans rfl
  have e5 : w5.cell? ⟨w.heap.size, 5, none⟩ = some (.int .i32 i) := (cell_of_row w5 _ 5 _ _ _ he).trans rfl
  have e6 : w5.cell? ⟨w.heap.size, 6, none⟩ = some (.string s) := (cell_of_row w5 _ 6 _ _ _ he).trans rfl
  have e7 : w5.cell? ⟨w.heap.size, 7, none⟩ = some (.slice (some ⟨b, o, none⟩) 2 xc) := (cell_of_row w5 _ 7 _ _ _ he).trans rfl
  have z0 : w5.cell? ⟨w.heap.size + 1, 0, none⟩ = some (.int .i64 0) := (cell_of_row w5 _ 0 _ _ _ hz).trans rfl
  have zf0 := frozen_of_row w5 (w.heap.size + 1) 0 _ _ hz
  have z1 : w5.cell? ⟨w.heap.size + 1, 1, none⟩ = some (.int .i64 0) := (cell_of_row w5 _ 1 _ _ _ hz).trans rfl
  have zf1 := frozen_of_row w5 (w.heap.size + 1) 1 _ _ hz
  have z2 : w5.cell? ⟨w.heap.size + 1, 2, none⟩ = some (.int .i64 0) := (cell_of_row w5 _ 2 _ _ _ hz).trans rfl
  have zf2 := frozen_of_row w5 (w.heap.size + 1) 2 _ _ hz
  have z3 : w5.cell? ⟨w.heap.size + 1, 3, none⟩ = some (.string { data := #[] }) := (cell_of_row w5 _ 3 _ _ _ hz).trans rfl
  have zf3 := frozen_of_row w5 (w.heap.size + 1) 3 _ _ hz
  have z4 : w5.cell? ⟨w.heap.size + 1, 4, none⟩ = some (.slice none 0 0) := (cell_of_row w5 _ 4 _ _ _ hz).trans rfl
  have zf4 := frozen_of_row w5 (w.heap.size + 1) 4 _ _ hz
  have z5 : w5.cell? ⟨w.heap.size + 1, 5, none⟩ = some (.int .i32 0) := (cell_of_row w5 _ 5 _ _ _ hz).trans rfl
  have zf5 := frozen_of_row w5 (w.heap.size + 1) 5 _ _ hz
  have z6 : w5.cell? ⟨w.heap.size + 1, 6, none⟩ = some (.string { data := #[] }) := (cell_of_row w5 _ 6 _ _ _ hz).trans rfl
  have zf6 := frozen_of_row w5 (w.heap.size + 1) 6 _ _ hz
  have z7 : w5.cell? ⟨w.heap.size + 1, 7, none⟩ = some (.slice none 0 0) := (cell_of_row w5 _ 7 _ _ _ hz).trans rfl
  have zf7 := frozen_of_row w5 (w.heap.size + 1) 7 _ _ hz
  have HSMw5 := Lib.hid (show ∀ j, j < 8 → (w5.cell? ⟨w.heap.size + 1, j, none⟩).isSome = true from fun j hj => some8 hz j hj)
  have HBw5 := Lib.hid hbw5
  have hzw5 := hbw5.size
  clear he hz hbw5
  go_wp2_with fail
  exact bodyPost_ret (v := .tuple #[.agg #[.int .i64 0, .int .i64 f, .int .i64 0, .string ByteArray.empty, .slice none 0 0, .int .i32 (v), .string ByteArray.empty, .slice none 0 0], .int .i64 (0)]) (by simp [results, Try.results13, go_sem, HSMw5.out 0, HSMw5.out 1, HSMw5.out 2, HSMw5.out 3, HSMw5.out 4, HSMw5.out 5, HSMw5.out 6, HSMw5.out 7]; try rfl) rfl ⟨rfl, below_set8n (HB01.out.trans (HBw5.out.mono (by rw [HS1.out]; omega))) (by omega) _ _ _ _ _ _ _ _⟩

set_option maxHeartbeats 6400000 in
theorem fexpr_two0 (w : World) (op f n i : Int) (nm s : ByteArray) (tk tc xc b o : Nat) (ta : Option Addr) (x : Nat → Ex) (hx : ExsAt w (some ⟨b, o, none⟩) 2 x) (h1 : 2 ≤ xc) (h2 : xc ≤ 9223372036854775807) (hop : isBi op) (hfi : -2147483648 ≤ (x 0).i ∧ (x 0).i ≤ 2147483647) (hfi1 : -2147483648 ≤ (x 1).i ∧ (x 1).i ≤ 2147483647) (ha : allC 2 x = true) (ht : biB op (x 0).t.form (x 1).i = false) : Calls Try.prog 13 #[.agg #[.int .i64 op, .int .i64 f, .int .i64 n, .string nm, .slice ta tk tc, .int .i32 i, .string s, .slice (some ⟨b, o, none⟩) 2 xc]] w fun en w' => en = .returned (.tuple #[.agg #[.int .i64 0, .int .i64 0, .int .i64 0, .string ByteArray.empty, .slice none 0 0, .int .i32 0, .string ByteArray.empty, .slice none 0 0], .int .i64 (33)]) ∧ Below w.heap.size w w' := by
  obtain ⟨w1, hw1⟩ : ∃ w1 : World, w1 = (w.alloc (.cells #[.int .i64 op, .int .i64 f, .int .i64 n, .string nm, .slice ta tk tc, .int .i32 i, .string s, .slice (some ⟨b, o, none⟩) 2 xc] 27)).alloc (.cells #[.int .i64 0, .int .i64 0, .int .i64 0, .string { data := #[] }, .slice none 0 0, .int .i32 0, .string { data := #[] }, .slice none 0 0] 27) := ⟨_, rfl⟩
  have hs1 : w1.heap.size = w.heap.size + 2 := by rw [hw1]; simp
  have HE := Lib.hid (show w1.heap[w.heap.size]? = some (.cells #[.int .i64 op, .int .i64 f, .int .i64 n, .string nm, .slice ta tk tc, .int .i32 i, .string s, .slice (some ⟨b, o, none⟩) 2 xc] 27 (0, 0)) from by rw [hw1]; exact heap_alloc2_old w _ _)
  have HZ := Lib.hid (show w1.heap[w.heap.size + 1]? = some (.cells #[.int .i64 0, .int .i64 0, .int .i64 0, .string { data := #[] }, .slice none 0 0, .int .i32 0, .string { data := #[] }, .slice none 0 0] 27 (0, 0)) from by rw [hw1]; exact heap_alloc2_new w _ _)
  have hb01 : Below w.heap.size w w1 := by rw [hw1]; exact ((Below.refl _ _).alloc (Nat.le_refl _) _).alloc (by simp) _
  have HB01 := Lib.hid hb01
  have HX := Lib.hid (hx.below hb01 (Nat.le_refl _))
  have HW1 := Lib.hid hw1
  have HS1 := Lib.hid hs1
  obtain ⟨b', o', hbo, hcc⟩ := HX.out (by decide)
  cases hbo
  obtain ⟨tu, xu, hok0, hc0⟩ := hcc 0 (by decide)
  obtain ⟨E0, hE0⟩ : ∃ E0, E0 = x 0 := ⟨_, rfl⟩
  obtain ⟨tu1, xu1, hok1, hc1⟩ := hcc 1 (by decide)
  obtain ⟨E1, hE1⟩ : ∃ E1, E1 = x 1 := ⟨_, rfl⟩
  rw [← hE1] at hok1 hc1
  rw [← hE1] at hfi1
  rw [← hE0] at hok0 hc0
  rw [← hE0] at hfi
  rw [← hE0, ← hE1] at ht
  obtain ⟨v, hv⟩ : ∃ v, v = biI op E0.t.form E0.i E1.i := ⟨_, rfl⟩
  have hcn : ((2 : Nat) : Int) = cnt op := by unfold isBi at hop; unfold cnt; rw [if_neg (by omega), if_pos hop]; rfl
  have hc : (7 ≤ op ∧ op ≤ 22) ∨ (27 ≤ op ∧ op ≤ 33) := by unfold isBi at hop; omega
  have ho : ¬ op = 24 := by unfold isBi at hop; omega
  have HSF := Lib.hid (show ∀ V : World, Below w1.heap.size w1 V → (V.cell? ⟨w.heap.size, 0, none⟩ = some (.int .i64 op) ∧ V.cell? ⟨w.heap.size, 7, none⟩ = some (.slice (some ⟨b, o, none⟩) 2 xc) ∧ (V.cell? ⟨b, o, none⟩ = some (.int .i64 E0.op) ∧ V.cell? ⟨b, o + 1, none⟩ = some (.int .i64 E0.t.form) ∧ V.cell? ⟨b, o + 2, none⟩ = some (.int .i64 E0.t.num) ∧ V.cell? ⟨b, o + 3, none⟩ = some (.string E0.t.name) ∧ V.cell? ⟨b, o + 4, none⟩ = some (tu) ∧ V.cell? ⟨b, o + 5, none⟩ = some (.int .i32 E0.i) ∧ V.cell? ⟨b, o + 6, none⟩ = some (.string E0.s) ∧ V.cell? ⟨b, o + 7, none⟩ = some (xu)) ∧ V.cell? ⟨b, o + 8, none⟩ = some (.int .i64 E1.op) ∧ V.cell? ⟨b, o + 9, none⟩ = some (.int .i64 E1.t.form) ∧ V.cell? ⟨b, o + 10, none⟩ = some (.int .i64 E1.t.num) ∧ V.cell? ⟨b, o + 11, none⟩ = some (.string E1.t.name) ∧ V.cell? ⟨b, o + 12, none⟩ = some (tu1) ∧ V.cell? ⟨b, o + 13, none⟩ = some (.int .i32 E1.i) ∧ V.cell? ⟨b, o + 14, none⟩ = some (.string E1.s) ∧ V.cell? ⟨b, o + 15, none⟩ = some (xu1)) from fun V hb => ⟨cell_below hb (Nat.le_refl _) ((cell_of_row w1 _ 0 _ _ _ HE.out).trans rfl), cell_below hb (Nat.le_refl _) ((cell_of_row w1 _ 7 _ _ _ HE.out).trans rfl), ⟨cell_below hb (Nat.le_refl _) (by simpa using hc0.c0), cell_below hb (Nat.le_refl _) (by simpa using hc0.c1), cell_below hb (Nat.le_refl _) (by simpa using hc0.c2), cell_below hb (Nat.le_refl _) (by simpa using hc0.c3), cell_below hb (Nat.le_refl _) (by simpa using hc0.c4), cell_below hb (Nat.le_refl _) (by simpa using hc0.c5), cell_below hb (Nat.le_refl _) (by simpa using hc0.c6), cell_below hb (Nat.le_refl _) (by simpa using hc0.c7)⟩, cell_below hb (Nat.le_refl _) (by simpa using hc1.c0), cell_below hb (Nat.le_refl _) (by simpa using hc1.c1), cell_below hb (Nat.le_refl _) (by simpa using hc1.c2), cell_below hb (Nat.le_refl _) (by simpa using hc1.c3), cell_below hb (Nat.le_refl _) (by simpa using hc1.c4), cell_below hb (Nat.le_refl _) (by simpa using hc1.c5), cell_below hb (Nat.le_refl _) (by simpa using hc1.c6), cell_below hb (Nat.le_refl _) (by simpa using hc1.c7)⟩)
  have HA := Lib.hid ha
  have HT := Lib.hid ht
  have HCC := Lib.hid (show (2 : Int) = cnt op from hcn)
  have HV := Lib.hid hv
  have HFI := Lib.hid hfi
  have HFI1 := Lib.hid hfi1
  have HOP := Lib.hid hop
  clear hcc hok0 hc0 hE0 hb01 hw1 hs1 hx ha ht hv hfi hop hcn hok1 hc1 hE1 hfi1
  go_enter Try.func13, Try.ntmps13
  go_wp2_with (go_at_call 22; refine (count_c _ _ _ hc HCC.out).mono ?_; rintro en w2 ⟨rfl, rfl⟩)
  rw [← HW1.out]
  refine (all_prog w1 (some ⟨b, o, none⟩) 2 xc x HX.out h1 h2).mono ?_
  rintro en w2 ⟨rfl, hbn⟩
  have hbw2 : Below w1.heap.size w1 w2 := hbn
  clear hbn
  rw [HA.out]
  have he := HE.out
  rw [← hbw2.block _ (by rw [HS1.out]; omega)] at he
  have hz := HZ.out
  rw [← hbw2.block _ (by rw [HS1.out]; omega)] at hz
  have e0 : w2.cell? ⟨w.heap.size, 0, none⟩ = some (.int .i64 op) := (cell_of_row w2 _ 0 _ _ _ he).trans rfl
  have e1 : w2.cell? ⟨w.heap.size, 1, none⟩ = some (.int .i64 f) := (cell_of_row w2 _ 1 _ _ _ he).trans rfl
  have e2 : w2.cell? ⟨w.heap.size, 2, none⟩ = some (.int .i64 n) := (cell_of_row w2 _ 2 _ _ _ he).trans rfl
  have e3 : w2.cell? ⟨w.heap.size, 3, none⟩ = some (.string nm) := (cell_of_row w2 _ 3 _ _ _ he).trans rfl
  have e4 : w2.cell? ⟨w.heap.size, 4, none⟩ = some (.slice ta tk tc) := (cell_of_row w2 _ 4 _ _ _ he).trans rfl
  have e5 : w2.cell? ⟨w.heap.size, 5, none⟩ = some (.int .i32 i) := (cell_of_row w2 _ 5 _ _ _ he).trans rfl
  have e6 : w2.cell? ⟨w.heap.size, 6, none⟩ = some (.string s) := (cell_of_row w2 _ 6 _ _ _ he).trans rfl
  have e7 : w2.cell? ⟨w.heap.size, 7, none⟩ = some (.slice (some ⟨b, o, none⟩) 2 xc) := (cell_of_row w2 _ 7 _ _ _ he).trans rfl
  have z0 : w2.cell? ⟨w.heap.size + 1, 0, none⟩ = some (.int .i64 0) := (cell_of_row w2 _ 0 _ _ _ hz).trans rfl
  have zf0 := frozen_of_row w2 (w.heap.size + 1) 0 _ _ hz
  have z1 : w2.cell? ⟨w.heap.size + 1, 1, none⟩ = some (.int .i64 0) := (cell_of_row w2 _ 1 _ _ _ hz).trans rfl
  have zf1 := frozen_of_row w2 (w.heap.size + 1) 1 _ _ hz
  have z2 : w2.cell? ⟨w.heap.size + 1, 2, none⟩ = some (.int .i64 0) := (cell_of_row w2 _ 2 _ _ _ hz).trans rfl
  have zf2 := frozen_of_row w2 (w.heap.size + 1) 2 _ _ hz
  have z3 : w2.cell? ⟨w.heap.size + 1, 3, none⟩ = some (.string { data := #[] }) := (cell_of_row w2 _ 3 _ _ _ hz).trans rfl
  have zf3 := frozen_of_row w2 (w.heap.size + 1) 3 _ _ hz
  have z4 : w2.cell? ⟨w.heap.size + 1, 4, none⟩ = some (.slice none 0 0) := (cell_of_row w2 _ 4 _ _ _ hz).trans rfl
  have zf4 := frozen_of_row w2 (w.heap.size + 1) 4 _ _ hz
  have z5 : w2.cell? ⟨w.heap.size + 1, 5, none⟩ = some (.int .i32 0) := (cell_of_row w2 _ 5 _ _ _ hz).trans rfl
  have zf5 := frozen_of_row w2 (w.heap.size + 1) 5 _ _ hz
  have z6 : w2.cell? ⟨w.heap.size + 1, 6, none⟩ = some (.string { data := #[] }) := (cell_of_row w2 _ 6 _ _ _ hz).trans rfl
  have zf6 := frozen_of_row w2 (w.heap.size + 1) 6 _ _ hz
  have z7 : w2.cell? ⟨w.heap.size + 1, 7, none⟩ = some (.slice none 0 0) := (cell_of_row w2 _ 7 _ _ _ hz).trans rfl
  have zf7 := frozen_of_row w2 (w.heap.size + 1) 7 _ _ hz
  have HSMw2 := Lib.hid (show ∀ j, j < 8 → (w2.cell? ⟨w.heap.size + 1, j, none⟩).isSome = true from fun j hj => some8 hz j hj)
  have HBw2 := Lib.hid hbw2
  have hzw2 := hbw2.size
  clear he hz hbw2
  go_wp2_with fail
  obtain ⟨w3, hwd⟩ : ∃ w3 : World, w3 = w2.drew := ⟨_, rfl⟩
  have HWD := Lib.hid hwd
  have hbw3 : Below w1.heap.size w1 w3 := by rw [hwd]; exact below_drewN HBw2.out 1
  clear hwd
  have HBw3 := Lib.hid hbw3
  clear hbw3
  have HS := Lib.hid (show (fun W : World => (W.cell? ⟨w.heap.size, 0, none⟩ = some (.int .i64 op) ∧ W.cell? ⟨w.heap.size, 7, none⟩ = some (.slice (some ⟨b, o, none⟩) 2 xc) ∧ (W.cell? ⟨b, o, none⟩ = some (.int .i64 E0.op) ∧ W.cell? ⟨b, o + 1, none⟩ = some (.int .i64 E0.t.form) ∧ W.cell? ⟨b, o + 2, none⟩ = some (.int .i64 E0.t.num) ∧ W.cell? ⟨b, o + 3, none⟩ = some (.string E0.t.name) ∧ W.cell? ⟨b, o + 4, none⟩ = some (tu) ∧ W.cell? ⟨b, o + 5, none⟩ = some (.int .i32 E0.i) ∧ W.cell? ⟨b, o + 6, none⟩ = some (.string E0.s) ∧ W.cell? ⟨b, o + 7, none⟩ = some (xu)) ∧ W.cell? ⟨b, o + 8, none⟩ = some (.int .i64 E1.op) ∧ W.cell? ⟨b, o + 9, none⟩ = some (.int .i64 E1.t.form) ∧ W.cell? ⟨b, o + 10, none⟩ = some (.int .i64 E1.t.num) ∧ W.cell? ⟨b, o + 11, none⟩ = some (.string E1.t.name) ∧ W.cell? ⟨b, o + 12, none⟩ = some (tu1) ∧ W.cell? ⟨b, o + 13, none⟩ = some (.int .i32 E1.i) ∧ W.cell? ⟨b, o + 14, none⟩ = some (.string E1.s) ∧ W.cell? ⟨b, o + 15, none⟩ = some (xu1))) w3 from HSF.out w3 HBw3.out)
  have HON := Lib.hid (two_prog w3 op E0 E1 tu xu tu1 xu1 HFI.out HFI1.out HOP.out)
  rw [HT.out, ← HV.out] at HON
  unfold exV at HON
  refine wp_region_till 15 (fun W => (W.cell? ⟨w.heap.size, 0, none⟩ = some (.int .i64 op) ∧ W.cell? ⟨w.heap.size, 7, none⟩ = some (.slice (some ⟨b, o, none⟩) 2 xc) ∧ (W.cell? ⟨b, o, none⟩ = some (.int .i64 E0.op) ∧ W.cell? ⟨b, o + 1, none⟩ = some (.int .i64 E0.t.form) ∧ W.cell? ⟨b, o + 2, none⟩ = some (.int .i64 E0.t.num) ∧ W.cell? ⟨b, o + 3, none⟩ = some (.string E0.t.name) ∧ W.cell? ⟨b, o + 4, none⟩ = some (tu) ∧ W.cell? ⟨b, o + 5, none⟩ = some (.int .i32 E0.i) ∧ W.cell? ⟨b, o + 6, none⟩ = some (.string E0.s) ∧ W.cell? ⟨b, o + 7, none⟩ = some (xu)) ∧ W.cell? ⟨b, o + 8, none⟩ = some (.int .i64 E1.op) ∧ W.cell? ⟨b, o + 9, none⟩ = some (.int .i64 E1.t.form) ∧ W.cell? ⟨b, o + 10, none⟩ = some (.int .i64 E1.t.num) ∧ W.cell? ⟨b, o + 11, none⟩ = some (.string E1.t.name) ∧ W.cell? ⟨b, o + 12, none⟩ = some (tu1) ∧ W.cell? ⟨b, o + 13, none⟩ = some (.int .i32 E1.i) ∧ W.cell? ⟨b, o + 14, none⟩ = some (.string E1.s) ∧ W.cell? ⟨b, o + 15, none⟩ = some (xu1))) (by as_aux_lemma => kernel_rfl) ?_
  rw [← HWD.out]
  (refine wpAnyT_take (i := 0) (oi := ?_) (v := ?_) ?_ (by as_aux_lemma => kernel_rfl) (by as_aux_lemma => kernel_rfl) (by as_aux_lemma => kernel_rfl) (by as_aux_lemma => kernel_rfl) ?_ (Or.inl ⟨?_, ?_⟩) HS.out ?_; rotate_left 2; (focus (simp only [List.getElem?_toArray, List.getElem?_cons_succ, List.getElem?_cons_zero] <;> rfl)); (focus exact (fun _ _ _ h => h)); (focus rfl); (focus (intro w hSw; (try dsimp only at hSw); go_simp; try (with_reducible rfl))))
  (try simp only [Act.put, List.setIfInBounds_toArray, List.set_cons_zero, List.set_cons_succ])
  (refine wpAnyT_take (i := 1) (oi := ?_) (v := ?_) ?_ (by as_aux_lemma => kernel_rfl) (by as_aux_lemma => kernel_rfl) (by as_aux_lemma => kernel_rfl) (by as_aux_lemma => kernel_rfl) ?_ (Or.inl ⟨?_, ?_⟩) HS.out ?_; rotate_left 2; (focus (simp only [List.getElem?_toArray, List.getElem?_cons_succ, List.getElem?_cons_zero] <;> rfl)); (focus exact (fun _ _ _ h => h)); (focus rfl); (focus (intro w hSw; (try dsimp only at hSw); go_simp; try (with_reducible rfl))))
  (try simp only [Act.put, List.setIfInBounds_toArray, List.set_cons_zero, List.set_cons_succ])
  (refine wpAnyT_take (i := 2) (oi := ?_) (v := ?_) ?_ (by as_aux_lemma => kernel_rfl) (by as_aux_lemma => kernel_rfl) (by as_aux_lemma => kernel_rfl) (by as_aux_lemma => kernel_rfl) ?_ (Or.inl ⟨?_, ?_⟩) HS.out ?_; rotate_left 2; (focus (simp only [List.getElem?_toArray, List.getElem?_cons_succ, List.getElem?_cons_zero] <;> rfl)); (focus exact (fun _ _ _ h => h)); (focus rfl); (focus (intro w hSw; (try dsimp only at hSw); go_simp; try (with_reducible rfl))))
  (try simp only [Act.put, List.setIfInBounds_toArray, List.set_cons_zero, List.set_cons_succ])
  (refine wpAnyT_take (i := 3) (oi := ?_) (v := ?_) ?_ (by as_aux_lemma => kernel_rfl) (by as_aux_lemma => kernel_rfl) (by as_aux_lemma => kernel_rfl) (by as_aux_lemma => kernel_rfl) ?_ (Or.inl ⟨?_, ?_⟩) HS.out ?_; rotate_left 2; (focus (simp only [List.getElem?_toArray, List.getElem?_cons_succ, List.getElem?_cons_zero] <;> rfl)); (focus exact (fun _ _ _ h => h)); (focus rfl); (focus (intro w hSw; (try dsimp only at hSw); go_simp; try (with_reducible rfl))))
  (try simp only [Act.put, List.setIfInBounds_toArray, List.set_cons_zero, List.set_cons_succ])
  (refine wpAnyT_take (i := 4) (oi := ?_) (v := ?_) ?_ (by as_aux_lemma => kernel_rfl) (by as_aux_lemma => kernel_rfl) (by as_aux_lemma => kernel_rfl) (by as_aux_lemma => kernel_rfl) ?_ (Or.inl ⟨?_, ?_⟩) HS.out ?_; rotate_left 2; (focus (simp only [List.getElem?_toArray, List.getElem?_cons_succ, List.getElem?_cons_zero] <;> rfl)); (focus exact (fun _ _ _ h => h)); (focus rfl); (focus (intro w hSw; (try dsimp only at hSw); go_simp; try (with_reducible rfl))))
  (try simp only [Act.put, List.setIfInBounds_toArray, List.set_cons_zero, List.set_cons_succ])
  (refine wpAnyT_take (i := 5) (oi := ?_) (v := ?_) ?_ (by as_aux_lemma => kernel_rfl) (by as_aux_lemma => kernel_rfl) (by as_aux_lemma => kernel_rfl) (by as_aux_lemma => kernel_rfl) ?_ (Or.inl ⟨?_, ?_⟩) HS.out ?_; rotate_left 2; (focus (simp only [List.getElem?_toArray, List.getElem?_cons_succ, List.getElem?_cons_zero] <;> rfl)); (focus exact (fun _ _ _ h => h)); (focus rfl); (focus (intro w hSw; (try dsimp only at hSw); go_simp; try (with_reducible rfl))))
  (try simp only [Act.put, List.setIfInBounds_toArray, List.set_cons_zero, List.set_cons_succ])
  (refine wpAnyT_take (i := 6) (oi := ?_) (v := ?_) ?_ (by as_aux_lemma => kernel_rfl) (by as_aux_lemma => kernel_rfl) (by as_aux_lemma => kernel_rfl) (by as_aux_lemma => kernel_rfl) ?_ (Or.inl ⟨?_, ?_⟩) HS.out ?_; rotate_left 2; (focus (simp only [List.getElem?_toArray, List.getElem?_cons_succ, List.getElem?_cons_zero] <;> rfl)); (focus exact (fun _ _ _ h => h)); (focus rfl); (focus (intro w hSw; (try dsimp only at hSw); go_simp; try (with_reducible rfl))))
  (try simp only [Act.put, List.setIfInBounds_toArray, List.set_cons_zero, List.set_cons_succ])
  (refine wpAnyT_take (i := 7) (oi := ?_) (v := ?_) ?_ (by as_aux_lemma => kernel_rfl) (by as_aux_lemma => kernel_rfl) (by as_aux_lemma => kernel_rfl) (by as_aux_lemma => kernel_rfl) ?_ (Or.inl ⟨?_, ?_⟩) HS.out ?_; rotate_left 2; (focus (simp only [List.getElem?_toArray, List.getElem?_cons_succ, List.getElem?_cons_zero] <;> rfl)); (focus exact (fun _ _ _ h => h)); (focus rfl); (focus (intro w hSw; (try dsimp only at hSw); go_simp; try (with_reducible rfl))))
  (try simp only [Act.put, List.setIfInBounds_toArray, List.set_cons_zero, List.set_cons_succ])
  (refine wpAnyT_take (i := 8) (oi := ?_) (v := ?_) ?_ (by as_aux_lemma => kernel_rfl) (by as_aux_lemma => kernel_rfl) (by as_aux_lemma => kernel_rfl) (by as_aux_lemma => kernel_rfl) ?_ (Or.inl ⟨?_, ?_⟩) HS.out ?_; rotate_left 2; (focus (simp only [List.getElem?_toArray, List.getElem?_cons_succ, List.getElem?_cons_zero] <;> rfl)); (focus exact (fun _ _ _ h => h)); (focus rfl); (focus (intro w hSw; (try dsimp only at hSw); go_simp; try (with_reducible rfl))))
  (try simp only [Act.put, List.setIfInBounds_toArray, List.set_cons_zero, List.set_cons_succ])
  (refine wpAnyT_take (i := 9) (oi := ?_) (v := ?_) ?_ (by as_aux_lemma => kernel_rfl) (by as_aux_lemma => kernel_rfl) (by as_aux_lemma => kernel_rfl) (by as_aux_lemma => kernel_rfl) ?_ (Or.inl ⟨?_, ?_⟩) HS.out ?_; rotate_left 2; (focus (simp only [List.getElem?_toArray, List.getElem?_cons_succ, List.getElem?_cons_zero] <;> rfl)); (focus exact (fun _ _ _ h => h)); (focus rfl); (focus (intro w hSw; (try dsimp only at hSw); go_simp; try (with_reducible rfl))))
  (try simp only [Act.put, List.setIfInBounds_toArray, List.set_cons_zero, List.set_cons_succ])
  (refine wpAnyT_one (i := 10) (oi := ?_) ?_ (by as_aux_lemma => kernel_rfl) (fun K hK => ?_); rotate_left; (focus (simp only [List.getElem?_toArray, List.getElem?_cons_succ, List.getElem?_cons_zero] <;> rfl)))
  go_simp
  refine HON.out.mono ?_
  rintro en w4 ⟨rfl, hbn⟩
  have hbw4 : Below w1.heap.size w1 w4 := HBw3.out.trans (hbn.mono HBw3.out.size)
  have HBw4 := Lib.hid hbw4
  have HS4 := Lib.hid (show (fun W : World => (W.cell? ⟨w.heap.size, 0, none⟩ = some (.int .i64 op) ∧ W.cell? ⟨w.heap.size, 7, none⟩ = some (.slice (some ⟨b, o, none⟩) 2 xc) ∧ (W.cell? ⟨b, o, none⟩ = some (.int .i64 E0.op) ∧ W.cell? ⟨b, o + 1, none⟩ = some (.int .i64 E0.t.form) ∧ W.cell? ⟨b, o + 2, none⟩ = some (.int .i64 E0.t.num) ∧ W.cell? ⟨b, o + 3, none⟩ = some (.string E0.t.name) ∧ W.cell? ⟨b, o + 4, none⟩ = some (tu) ∧ W.cell? ⟨b, o + 5, none⟩ = some (.int .i32 E0.i) ∧ W.cell? ⟨b, o + 6, none⟩ = some (.string E0.s) ∧ W.cell? ⟨b, o + 7, none⟩ = some (xu)) ∧ W.cell? ⟨b, o + 8, none⟩ = some (.int .i64 E1.op) ∧ W.cell? ⟨b, o + 9, none⟩ = some (.int .i64 E1.t.form) ∧ W.cell? ⟨b, o + 10, none⟩ = some (.int .i64 E1.t.num) ∧ W.cell? ⟨b, o + 11, none⟩ = some (.string E1.t.name) ∧ W.cell? ⟨b, o + 12, none⟩ = some (tu1) ∧ W.cell? ⟨b, o + 13, none⟩ = some (.int .i32 E1.i) ∧ W.cell? ⟨b, o + 14, none⟩ = some (.string E1.s) ∧ W.cell? ⟨b, o + 15, none⟩ = some (xu1))) w4 from HSF.out w4 HBw4.out)
  refine hK.out _ _ HS4.out ?_
  clear hK K hbn
  (try simp only [Act.put, List.setIfInBounds_toArray, List.set_cons_zero, List.set_cons_succ])
  (refine wpAnyT_take (i := 11) (oi := ?_) (v := ?_) ?_ (by as_aux_lemma => kernel_rfl) (by as_aux_lemma => kernel_rfl) (by as_aux_lemma => kernel_rfl) (by as_aux_lemma => kernel_rfl) ?_ (Or.inl ⟨?_, ?_⟩) HS4.out ?_; rotate_left 2; (focus (simp only [List.getElem?_toArray, List.getElem?_cons_succ, List.getElem?_cons_zero] <;> rfl)); (focus exact (fun _ _ _ h => h)); (focus rfl); (focus (intro w hSw; (try dsimp only at hSw); go_simp; try (with_reducible rfl))))
  (try simp only [Act.put, List.setIfInBounds_toArray, List.set_cons_zero, List.set_cons_succ])
  (refine wpAnyT_take (i := 12) (oi := ?_) (v := ?_) ?_ (by as_aux_lemma => kernel_rfl) (by as_aux_lemma => kernel_rfl) (by as_aux_lemma => kernel_rfl) (by as_aux_lemma => kernel_rfl) ?_ (Or.inl ⟨?_, ?_⟩) HS4.out ?_; rotate_left 2; (focus (simp only [List.getElem?_toArray, List.getElem?_cons_succ, List.getElem?_cons_zero] <;> rfl)); (focus exact (fun _ _ _ h => h)); (focus rfl); (focus (intro w hSw; (try dsimp only at hSw); go_simp; try (with_reducible rfl))))
  (try simp only [Act.put, List.setIfInBounds_toArray, List.set_cons_zero, List.set_cons_succ])
  (refine wpAnyT_take (i := 13) (oi := ?_) (v := ?_) ?_ (by as_aux_lemma => kernel_rfl) (by as_aux_lemma => kernel_rfl) (by as_aux_lemma => kernel_rfl) (by as_aux_lemma => kernel_rfl) ?_ (Or.inl ⟨?_, ?_⟩) HS4.out ?_; rotate_left 2; (focus (simp only [List.getElem?_toArray, List.getElem?_cons_succ, List.getElem?_cons_zero] <;> rfl)); (focus exact (fun _ _ _ h => h)); (focus rfl); (focus (intro w hSw; (try dsimp only at hSw); go_simp; try (with_reducible rfl))))
  (try simp only [Act.put, List.setIfInBounds_toArray, List.set_cons_zero, List.set_cons_succ])
  (refine wpAnyT_take (i := 14) (oi := ?_) (v := ?_) ?_ (by as_aux_lemma => kernel_rfl) (by as_aux_lemma => kernel_rfl) (by as_aux_lemma => kernel_rfl) (by as_aux_lemma => kernel_rfl) ?_ (Or.inl ⟨?_, ?_⟩) HS4.out ?_; rotate_left 2; (focus (simp only [List.getElem?_toArray, List.getElem?_cons_succ, List.getElem?_cons_zero] <;> rfl)); (focus exact (fun _ _ _ h => h)); (focus rfl); (focus (intro w hSw; (try dsimp only at hSw); go_simp; try (with_reducible rfl))))
  (try simp only [Act.put, List.setIfInBounds_toArray, List.set_cons_zero, List.set_cons_succ])
  (refine wpAnyT_late (i := 15) (oi := ?_) ?_ (by as_aux_lemma => kernel_rfl) (by as_aux_lemma => kernel_rfl) (fun K hK => ?_); rotate_left; (focus (simp only [List.getElem?_toArray, List.getElem?_cons_succ, List.getElem?_cons_zero] <;> rfl)))
  go_simp
  refine hK.out _ _ ?_
  clear hK K
  refine wpAnyT_done (by as_aux_lemma => kernel_rfl) ?_ _
  clear e0 e1 e2 e3 e4 e5 e6 e7
  clear z0 zf0 z1 zf1 z2 zf2 z3 zf3 z4 zf4 z5 zf5 z6 zf6 z7 zf7
  have he := HE.out
  rw [← hbw4.block _ (by rw [HS1.out]; omega)] at he
  have hz := HZ.out
  rw [← hbw4.block _ (by rw [HS1.out]; omega)] at hz
  have e0 : w4.cell? ⟨w.heap.size, 0, none⟩ = some (.int .i64 op) := (cell_of_row w4 _ 0 _ _ _ he).trans rfl
  have e1 : w4.cell? ⟨w.heap.size, 1, none⟩ = some (.int .i64 f) := (cell_of_row w4 _ 1 _ _ _ he).trans rfl
  have e2 : w4.cell? ⟨w.heap.size, 2, none⟩ = some (.int .i64 n) := (cell_of_row w4 _ 2 _ _ _ he).trans rfl
  have e3 : w4.cell? ⟨w.heap.size, 3, none⟩ = some (.string nm) := (cell_of_row w4 _ 3 _ _ _ he).trans rfl
  have e4 : w4.cell? ⟨w.heap.size, 4, none⟩ = some (.slice ta tk tc) := (cell_of_row w4 _ 4 _ _ _ he).trans rfl
  have e5 : w4.cell? ⟨w.heap.size, 5, none⟩ = some (.int .i32 i) := (cell_of_row w4 _ 5 _ _ _ he).trans rfl
  have e6 : w4.cell? ⟨w.heap.size, 6, none⟩ = some (.string s) := (cell_of_row w4 _ 6 _ _ _ he).trans rfl
  have e7 : w4.cell? ⟨w.heap.size, 7, none⟩ = some (.slice (some ⟨b, o, none⟩) 2 xc) := (cell_of_row w4 _ 7 _ _ _ he).trans rfl
  have z0 : w4.cell? ⟨w.heap.size + 1, 0, none⟩ = some (.int .i64 0) := (cell_of_row w4 _ 0 _ _ _ hz).trans rfl
  have zf0 := frozen_of_row w4 (w.heap.size + 1) 0 _ _ hz
  have z1 : w4.cell? ⟨w.heap.size + 1, 1, none⟩ = some (.int .i64 0) := (cell_of_row w4 _ 1 _ _ _ hz).trans rfl
  have zf1 := frozen_of_row w4 (w.heap.size + 1) 1 _ _ hz
  have z2 : w4.cell? ⟨w.heap.size + 1, 2, none⟩ = some (.int .i64 0) := (cell_of_row w4 _ 2 _ _ _ hz).trans rfl
  have zf2 := frozen_of_row w4 (w.heap.size + 1) 2 _ _ hz
  have z3 : w4.cell? ⟨w.heap.size + 1, 3, none⟩ = some (.string { data := #[] }) := (cell_of_row w4 _ 3 _ _ _ hz).trans rfl
  have zf3 := frozen_of_row w4 (w.heap.size + 1) 3 _ _ hz
  have z4 : w4.cell? ⟨w.heap.size + 1, 4, none⟩ = some (.slice none 0 0) := (cell_of_row w4 _ 4 _ _ _ hz).trans rfl
  have zf4 := frozen_of_row w4 (w.heap.size + 1) 4 _ _ hz
  have z5 : w4.cell? ⟨w.heap.size + 1, 5, none⟩ = some (.int .i32 0) := (cell_of_row w4 _ 5 _ _ _ hz).trans rfl
  have zf5 := frozen_of_row w4 (w.heap.size + 1) 5 _ _ hz
  have z6 : w4.cell? ⟨w.heap.size + 1, 6, none⟩ = some (.string { data := #[] }) := (cell_of_row w4 _ 6 _ _ _ hz).trans rfl
  have zf6 := frozen_of_row w4 (w.heap.size + 1) 6 _ _ hz
  have z7 : w4.cell? ⟨w.heap.size + 1, 7, none⟩ = some (.slice none 0 0) := (cell_of_row w4 _ 7 _ _ _ hz).trans rfl
  have zf7 := frozen_of_row w4 (w.heap.size + 1) 7 _ _ hz
  have HSMw4 := Lib.hid (show ∀ j, j < 8 → (w4.cell? ⟨w.heap.size + 1, j, none⟩).isSome = true from fun j hj => some8 hz j hj)
  have hzw4 := hbw4.size
  clear he hz hbw4
  go_wp2_with fail
  exact bodyPost_ret (v := .tuple #[.agg #[.int .i64 0, .int .i64 0, .int .i64 0, .string ByteArray.empty, .slice none 0 0, .int .i32 0, .string ByteArray.empty, .slice none 0 0], .int .i64 (33)]) (by simp [results, Try.results13, go_sem, HSMw4.out 0, HSMw4.out 1, HSMw4.out 2, HSMw4.out 3, HSMw4.out 4, HSMw4.out 5, HSMw4.out 6, HSMw4.out 7]; try rfl) rfl ⟨rfl, below_set8n (HB01.out.trans (HBw4.out.mono (by rw [HS1.out]; omega))) (by omega) _ _ _ _ _ _ _ _⟩
theorem cnt_un {op : Int} (h : isUn op) : cnt op = 1 := by unfold isUn at h; unfold cnt; rw [if_pos h]
theorem cnt_bi {op : Int} (h : isBi op) : cnt op = 2 := by unfold isBi at h; unfold cnt; rw [if_neg (by omega), if_pos h]
theorem fexpr_prog (w : World) (e : Ex) (tv xv : Value) (hok : ExOk w e tv xv) (hfit : Fit e) : Calls Try.prog 13 #[exV e tv xv] w (FoldRet e tv xv (fv e) w) := by
  obtain ⟨ta, tc, rfl, t1, t2⟩ := hok.ty.shape
  obtain ⟨xa, xc, rfl, h1, h2, hx⟩ := hok.shape
  by_cases ho : e.op = 24
  · cases ha : elems e.k e.x with
    | false =>
      have hf : fv e = none := by unfold fv; rw [if_neg (by rw [ha]; simp), if_neg (by unfold isUn; omega), if_neg (by unfold isBi; omega)]
      rw [hf]
      have := fexpr_self3 w e.t.form e.t.num e.i e.t.name e.s e.t.k tc e.k xc ta xa e.x hx h1 h2 ha
      rw [← ho] at this
      exact this
    | true =>
      have hf : fv e = some (setV e.x e.k, setB e.x e.k) := by unfold fv; rw [if_pos ⟨ho, ha⟩]
      rw [hf]
      cases ht : setB e.x e.k with
      | true =>
        have := fexpr_set1 w e.t.form e.t.num e.i e.t.name e.s e.t.k tc e.k xc ta xa e.x hx h1 h2 ha ht
        rw [← ho] at this
        exact this
      | false =>
        have := fexpr_set0 w e.t.form e.t.num e.i e.t.name e.s e.t.k tc e.k xc ta xa e.x hx h1 h2 ha ht
        rw [← ho] at this
        exact this
  · by_cases hc : (7 ≤ e.op ∧ e.op ≤ 22) ∨ (27 ≤ e.op ∧ e.op ≤ 33)
    · by_cases hk : (e.k : Int) = cnt e.op
      · cases ha : allC e.k e.x with
        | false =>
          have hf : fv e = none := by unfold fv; rw [if_neg (fun h => ho h.1), if_neg (by rw [ha]; simp), if_neg (by rw [ha]; simp)]
          rw [hf]
          exact fexpr_self2 w e.op e.t.form e.t.num e.i e.t.name e.s e.t.k tc e.k xc ta xa e.x hx h1 h2 ho hc hk ha
        | true =>
          by_cases hu : isUn e.op
          · have hk1 : e.k = 1 := by rw [cnt_un hu] at hk; omega
            have hf : fv e = some (unI e.op (e.x 0).t.form (e.x 0).i, unB e.op (e.x 0).i) := by unfold fv; rw [if_neg (fun h => ho h.1), if_pos ⟨hu, hk1, ha⟩]
            rw [hf]
            obtain ⟨b, o, rfl, _⟩ := hx (by omega)
            rw [hk1] at hx h1 ha ⊢
            have hfi := (hfit.part 0 (by omega)).here
            cases ht : unB e.op (e.x 0).i with
            | true =>
              have := fexpr_one1 w e.op e.t.form e.t.num e.i e.t.name e.s e.t.k tc xc b o ta e.x hx h1 h2 hu hfi ha ht
              exact this
            | false =>
              have := fexpr_one0 w e.op e.t.form e.t.num e.i e.t.name e.s e.t.k tc xc b o ta e.x hx h1 h2 hu hfi ha ht
              exact this
          · have hbi : isBi e.op := by unfold isUn at hu; unfold isBi; omega
            have hk2 : e.k = 2 := by rw [cnt_bi hbi] at hk; omega
            have hf : fv e = some (biI e.op (e.x 0).t.form (e.x 0).i (e.x 1).i, biB e.op (e.x 0).t.form (e.x 1).i) := by unfold fv; rw [if_neg (fun h => ho h.1), if_neg (fun h => hu h.1), if_pos ⟨hbi, hk2, ha⟩]
            rw [hf]
            obtain ⟨b, o, rfl, _⟩ := hx (by omega)
            rw [hk2] at hx h1 ha ⊢
            have hfi := (hfit.part 0 (by omega)).here
            have hfi1 := (hfit.part 1 (by omega)).here
            cases ht : biB e.op (e.x 0).t.form (e.x 1).i with
            | true =>
              have := fexpr_two1 w e.op e.t.form e.t.num e.i e.t.name e.s e.t.k tc xc b o ta e.x hx h1 h2 hbi hfi hfi1 ha ht
              exact this
            | false =>
              have := fexpr_two0 w e.op e.t.form e.t.num e.i e.t.name e.s e.t.k tc xc b o ta e.x hx h1 h2 hbi hfi hfi1 ha ht
              exact this
      · have hf : fv e = none := by
          unfold fv
          rw [if_neg (fun h => ho h.1), if_neg (fun h => hk (by rw [h.2.1, cnt_un h.1]; rfl)), if_neg (fun h => hk (by rw [h.2.1, cnt_bi h.1]; rfl))]
        rw [hf]
        exact fexpr_self1 w e.op e.t.form e.t.num e.i e.t.name e.s e.t.k tc e.k xc ta xa e.x hx h1 h2 ho hc hk
    · have hf : fv e = none := by unfold fv; rw [if_neg (fun h => ho h.1), if_neg (by unfold isUn; omega), if_neg (by unfold isBi; omega)]
      rw [hf]
      exact fexpr_self0 w e.op e.t.form e.t.num e.i e.t.name e.s e.t.k tc e.k xc ta xa e.x hx h1 h2 ho hc
end Go.Proofs.Ytiikeilpgajmfaa
