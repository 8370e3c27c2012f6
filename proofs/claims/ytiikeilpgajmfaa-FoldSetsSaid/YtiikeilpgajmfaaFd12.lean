/- Fold: the reference's Fold. (Printed by gen_fd12.py.) -/
import Derived.Test.YtiikeilpgajmfaaFd11
namespace Go.Proofs.Ytiikeilpgajmfaa
open Go.RowKit Go.Waf
set_option maxRecDepth 100000
set_option linter.unusedVariables false
set_option linter.unusedSimpArgs false

theorem fv_set {e : Ex} (h : e.op = 24) : (fv e).isSome = elems e.k e.x := by
  unfold fv
  cases ha : elems e.k e.x with
  | true => rw [if_pos ⟨h, rfl⟩]; rfl
  | false => rw [if_neg (by simp), if_neg (by unfold isUn; omega), if_neg (by unfold isBi; omega)]; rfl
theorem fv_not {e : Ex} (h : e.op = 25 ∨ e.op = 26) : (fv e).isSome = false := by
  unfold fv
  rw [if_neg (by omega), if_neg (by unfold isUn; omega), if_neg (by unfold isBi; omega)]; rfl
theorem fv_op {e : Ex} (h : ¬ e.op = 24) (h5 : ¬ e.op = 25) (h6 : ¬ e.op = 26) : (fv e).isSome = (allC e.k e.x && (decide ((e.k : Int) = ari e.op) && decide (0 < ari e.op))) := by
  unfold fv
  rw [if_neg (fun hh => h hh.1)]
  by_cases hu : isUn e.op
  · have ea : ari e.op = 1 := by unfold isUn at hu; unfold ari; rw [if_pos (by omega)]
    have hb : ¬ isBi e.op := by unfold isUn at hu; unfold isBi; omega
    rw [ea]
    by_cases hk : e.k = 1
    · cases ha : allC e.k e.x with
      | true => rw [if_pos ⟨hu, hk, rfl⟩]; simp [hk]
      | false => rw [if_neg (by simp), if_neg (by simp)]; simp
    · rw [if_neg (fun hh => hk hh.2.1), if_neg (fun hh => hb hh.1)]
      have : decide ((e.k : Int) = 1) = false := decide_eq_false (by omega)
      rw [this]; simp
  · by_cases hb : isBi e.op
    · have ea : ari e.op = 2 := by unfold isBi at hb; unfold ari; rw [if_neg (by omega), if_pos (by omega)]
      rw [ea, if_neg (fun hh => hu hh.1)]
      by_cases hk : e.k = 2
      · cases ha : allC e.k e.x with
        | true => rw [if_pos ⟨hb, hk, rfl⟩]; simp [hk]
        | false => rw [if_neg (by simp)]; simp
      · rw [if_neg (fun hh => hk hh.2.1)]
        have : decide ((e.k : Int) = 2) = false := decide_eq_false (by omega)
        rw [this]; simp
    · have ea : ari e.op = 0 := by unfold isUn at hu; unfold isBi at hb; unfold ari; rw [if_neg (by omega), if_neg (by omega)]
      rw [ea, if_neg (fun hh => hu hh.1), if_neg (fun hh => hb hh.1)]
      simp
theorem foldable_ref (w : World) (e : Ex) (tv xv : Value) (hok : ExOk w e tv xv) : Calls Try.prog 30 #[exV e tv xv] w fun en w' => en = .returned (.bool (fv e).isSome) ∧ Below w.heap.size w w' := by
  obtain ⟨ta, tc, rfl, t1, t2⟩ := hok.ty.shape
  obtain ⟨xa, xc, rfl, h1, h2, hx⟩ := hok.shape
  by_cases h : e.op = 24
  · have := foldable_d w e.t.form e.t.num e.i e.t.name e.s e.t.k tc e.k xc ta xa e.x hx h1 h2 _ (fv_set h)
    rw [← h] at this; exact this
  · by_cases h5 : e.op = 25
    · have := foldable_b w e.t.form e.t.num e.i e.t.name e.s e.t.k tc e.k xc ta xa e.x hx h1 h2
      rw [← h5] at this; rw [fv_not (Or.inl h5)]; exact this
    · by_cases h6 : e.op = 26
      · have := foldable_c w e.t.form e.t.num e.i e.t.name e.s e.t.k tc e.k xc ta xa e.x hx h1 h2
        rw [← h6] at this; rw [fv_not (Or.inr h6)]; exact this
      · exact foldable_a w e.op e.t.form e.t.num e.i e.t.name e.s e.t.k tc e.k xc ta xa e.x hx h1 h2 _ h h5 h6 (fv_op h h5 h6)
theorem constant_ref (w : World) (e : Ex) (tv xv : Value) (v : Int) (t : Bool) (hok : ExOk w e tv xv) (hfit : Fit e) (hv : fv e = some (v, t)) : Calls Try.prog 31 #[exV e tv xv] w fun en w' => en = .returned (.tuple #[.int .i32 v, .bool t]) ∧ Below w.heap.size w w' := by
  obtain ⟨ta, tc, rfl, t1, t2⟩ := hok.ty.shape
  obtain ⟨xa, xc, rfl, h1, h2, hx⟩ := hok.shape
  unfold fv at hv
  split at hv
  · rename_i h
    cases hv
    have := const_set w e.t.form e.t.num e.i e.t.name e.s e.t.k tc e.k xc ta xa e.x hx h1 h2 (elems_all h.2)
    rw [← h.1] at this; exact this
  · split at hv
    · rename_i h
      cases hv
      obtain ⟨b, o, rfl, _⟩ := hx (by omega)
      have hk := h.2.1
      rw [hk] at hx h1
      unfold exV; rw [hk]
      exact const_one w e.op e.t.form e.t.num e.i e.t.name e.s e.t.k tc xc b o ta e.x hx h1 h2 h.1 (hfit.part 0 (by omega)).here
    · split at hv
      · rename_i h
        cases hv
        obtain ⟨b, o, rfl, _⟩ := hx (by omega)
        have hk := h.2.1
        rw [hk] at hx h1
        unfold exV; rw [hk]
        exact const_two w e.op e.t.form e.t.num e.i e.t.name e.s e.t.k tc xc b o ta e.x hx h1 h2 h.1 (hfit.part 0 (by omega)).here (hfit.part 1 (by omega)).here
      · cases hv

set_option maxHeartbeats 3200000 in
theorem fold_none (w : World) (op f n i : Int) (nm s : ByteArray) (tk tc k xc : Nat) (ta xa : Option Addr) (FB : ∀ W, Below w.heap.size w W → Calls Try.prog 30 #[.agg #[.int .i64 op, .int .i64 f, .int .i64 n, .string nm, .slice ta tk tc, .int .i32 i, .string s, .slice xa k xc]] W fun en w' => en = .returned (.bool false) ∧ Below W.heap.size W w') : Calls Try.prog 17 #[.agg #[.int .i64 op, .int .i64 f, .int .i64 n, .string nm, .slice ta tk tc, .int .i32 i, .string s, .slice xa k xc]] w fun en w' => en = .returned (.tuple #[.agg #[.int .i64 op, .int .i64 f, .int .i64 n, .string nm, .slice ta tk tc, .int .i32 i, .string s, .slice xa k xc], .int .i64 (0)]) ∧ Below w.heap.size w w' := by
  obtain ⟨w1, hw1⟩ : ∃ w1 : World, w1 = (w.alloc (.cells #[.int .i64 op, .int .i64 f, .int .i64 n, .string nm, .slice ta tk tc, .int .i32 i, .string s, .slice xa k xc] 27)).alloc (.cells #[.int .i64 0, .int .i64 0, .int .i64 0, .string { data := #[] }, .slice none 0 0, .int .i32 0, .string { data := #[] }, .slice none 0 0] 27) := ⟨_, rfl⟩
  have hs1 : w1.heap.size = w.heap.size + 2 := by rw [hw1]; simp
  have HE := Lib.hid (show w1.heap[w.heap.size]? = some (.cells #[.int .i64 op, .int .i64 f, .int .i64 n, .string nm, .slice ta tk tc, .int .i32 i, .string s, .slice xa k xc] 27 (0, 0)) from by rw [hw1]; exact heap_alloc2_old w _ _)
  have HZ := Lib.hid (show w1.heap[w.heap.size + 1]? = some (.cells #[.int .i64 0, .int .i64 0, .int .i64 0, .string { data := #[] }, .slice none 0 0, .int .i32 0, .string { data := #[] }, .slice none 0 0] 27 (0, 0)) from by rw [hw1]; exact heap_alloc2_new w _ _)
  have hb01 : Below w.heap.size w w1 := by rw [hw1]; exact ((Below.refl _ _).alloc (Nat.le_refl _) _).alloc (by simp) _
  have HB01 := Lib.hid hb01
  have HW1 := Lib.hid hw1
  have HS1 := Lib.hid hs1
  have HFB := Lib.hid FB
  clear hb01 hw1 hs1 FB
  go_enter Try.func17, Try.ntmps17
  go_wp2_with fail
  rw [← HW1.out]
  refine (HFB.out w1 HB01.out).mono ?_
  rintro en w2 ⟨rfl, hbn⟩
  have hbw2 : Below w1.heap.size w1 w2 := hbn
  clear hbn
  have he := HE.out
  rw [← hbw2.block _ (by rw [HS1.out]; omega)] at he
  have hz := HZ.out
  rw [← hbw2.block _ (by rw [HS1.out]; omega)] at hz
  have e0 : w2.cell? ⟨w.heap.size, 0, none⟩ = some (.int .i64 op) := (cell_of_row w2 _ 0 _ _ _ he).trans rfl
  have e1 : w2.cell? ⟨w.heap.size, 1, none⟩ = some (.int .i64 f) := (cell_of_row w2 _ 1 _ _ _ he).trans rfl
  have e2 : w2.cell? ⟨w.heap.size, 2, none⟩ = some (.int .i64 n) := (cell_of_row w2 _ 2 _ _ _ he).trans rfl
  have e3 : w2.cell? ⟨w.heap.size, 3, none⟩ = some (.string nm) := (cell_of_row w2 _ 3 _ _ _ he).trans rfl
  have e4 : w2.cell? ⟨w.heap.size, 4, none⟩ = some (.slice ta tk tc) := (cell_of_row w2 _ 4 _ _ _ he).trans rfl
  have e5 : w2.cell? ⟨w.heap.size, 5, none⟩ = some (.int .i32 i) := (cell_of_row w2 _ 5 _ _ _ he).trans rfl
  have e6 : w2.cell? ⟨w.heap.size, 6, none⟩ = some (.string s) := (cell_of_row w2 _ 6 _ _ _ he).trans rfl
  have e7 : w2.cell? ⟨w.heap.size, 7, none⟩ = some (.slice xa k xc) := (cell_of_row w2 _ 7 _ _ _ he).trans rfl
  have z0 : w2.cell? ⟨w.heap.size + 1, 0, none⟩ = some (.int .i64 0) := (cell_of_row w2 _ 0 _ _ _ hz).trans rfl
  have zf0 := frozen_of_row w2 (w.heap.size + 1) 0 _ _ hz
  have z1 : w2.cell? ⟨w.heap.size + 1, 1, none⟩ = some (.int .i64 0) := (cell_of_row w2 _ 1 _ _ _ hz).trans rfl
  have zf1 := frozen_of_row w2 (w.heap.size + 1) 1 _ _ hz
  have z2 : w2.cell? ⟨w.heap.size + 1, 2, none⟩ = some (.int .i64 0) := (cell_of_row w2 _ 2 _ _ _ hz).trans rfl
  have zf2 := frozen_of_row w2 (w.heap.size + 1) 2 _ _ hz
  have z3 : w2.cell? ⟨w.heap.size + 1, 3, none⟩ = some (.string { data := #[] }) := (cell_of_row w2 _ 3 _ _ _ hz).trans rfl
  have zf3 := frozen_of_row w2 (w.heap.size + 1) 3 _ _ hz
  have z4 : w2.cell? ⟨w.heap.size + 1, 4, none⟩ = some (.slice none 0 0) := (cell_of_row w2 _ 4 _ _ _ hz).trans rfl
  have zf4 := frozen_of_row w2 (w.heap.size + 1) 4 _ _ hz
  have z5 : w2.cell? ⟨w.heap.size + 1, 5, none⟩ = some (.int .i32 0) := (cell_of_row w2 _ 5 _ _ _ hz).trans rfl
  have zf5 := frozen_of_row w2 (w.heap.size + 1) 5 _ _ hz
  have z6 : w2.cell? ⟨w.heap.size + 1, 6, none⟩ = some (.string { data := #[] }) := (cell_of_row w2 _ 6 _ _ _ hz).trans rfl
  have zf6 := frozen_of_row w2 (w.heap.size + 1) 6 _ _ hz
  have z7 : w2.cell? ⟨w.heap.size + 1, 7, none⟩ = some (.slice none 0 0) := (cell_of_row w2 _ 7 _ _ _ hz).trans rfl
  have zf7 := frozen_of_row w2 (w.heap.size + 1) 7 _ _ hz
  have HSMw2 := Lib.hid (show ∀ j, j < 8 → (w2.cell? ⟨w.heap.size + 1, j, none⟩).isSome = true from fun j hj => some8 hz j hj)
  have HBw2 := Lib.hid hbw2
  have hzw2 := hbw2.size
  clear he hz hbw2
  go_wp2_with fail
  exact bodyPost_ret (v := .tuple #[.agg #[.int .i64 op, .int .i64 f, .int .i64 n, .string nm, .slice ta tk tc, .int .i32 i, .string s, .slice xa k xc], .int .i64 (0)]) (by simp [results, Try.results17, go_sem, HSMw2.out 0, HSMw2.out 1, HSMw2.out 2, HSMw2.out 3, HSMw2.out 4, HSMw2.out 5, HSMw2.out 6, HSMw2.out 7]; try rfl) rfl ⟨rfl, below_set8n (HB01.out.trans (HBw2.out.mono (by rw [HS1.out]; omega))) (by omega) _ _ _ _ _ _ _ _⟩

set_option maxHeartbeats 3200000 in
theorem fold_yes (w : World) (op f n i : Int) (nm s : ByteArray) (tk tc k xc : Nat) (ta xa : Option Addr) (v : Int) (FB : ∀ W, Below w.heap.size w W → Calls Try.prog 30 #[.agg #[.int .i64 op, .int .i64 f, .int .i64 n, .string nm, .slice ta tk tc, .int .i32 i, .string s, .slice xa k xc]] W fun en w' => en = .returned (.bool true) ∧ Below W.heap.size W w') (CC : ∀ W, Below w.heap.size w W → Calls Try.prog 31 #[.agg #[.int .i64 op, .int .i64 f, .int .i64 n, .string nm, .slice ta tk tc, .int .i32 i, .string s, .slice xa k xc]] W fun en w' => en = .returned (.tuple #[.int .i32 v, .bool true]) ∧ Below W.heap.size W w') : Calls Try.prog 17 #[.agg #[.int .i64 op, .int .i64 f, .int .i64 n, .string nm, .slice ta tk tc, .int .i32 i, .string s, .slice xa k xc]] w fun en w' => en = .returned (.tuple #[.agg #[.int .i64 0, .int .i64 f, .int .i64 0, .string ByteArray.empty, .slice none 0 0, .int .i32 (v), .string ByteArray.empty, .slice none 0 0], .int .i64 (0)]) ∧ Below w.heap.size w w' := by
  obtain ⟨w1, hw1⟩ : ∃ w1 : World, w1 = (w.alloc (.cells #[.int .i64 op, .int .i64 f, .int .i64 n, .string nm, .slice ta tk tc, .int .i32 i, .string s, .slice xa k xc] 27)).alloc (.cells #[.int .i64 0, .int .i64 0, .int .i64 0, .string { data := #[] }, .slice none 0 0, .int .i32 0, .string { data := #[] }, .slice none 0 0] 27) := ⟨_, rfl⟩
  have hs1 : w1.heap.size = w.heap.size + 2 := by rw [hw1]; simp
  have HE := Lib.hid (show w1.heap[w.heap.size]? = some (.cells #[.int .i64 op, .int .i64 f, .int .i64 n, .string nm, .slice ta tk tc, .int .i32 i, .string s, .slice xa k xc] 27 (0, 0)) from by rw [hw1]; exact heap_alloc2_old w _ _)
  have HZ := Lib.hid (show w1.heap[w.heap.size + 1]? = some (.cells #[.int .i64 0, .int .i64 0, .int .i64 0, .string { data := #[] }, .slice none 0 0, .int .i32 0, .string { data := #[] }, .slice none 0 0] 27 (0, 0)) from by rw [hw1]; exact heap_alloc2_new w _ _)
  have hb01 : Below w.heap.size w w1 := by rw [hw1]; exact ((Below.refl _ _).alloc (Nat.le_refl _) _).alloc (by simp) _
  have HB01 := Lib.hid hb01
  have HW1 := Lib.hid hw1
  have HS1 := Lib.hid hs1
  have HFB := Lib.hid FB
  have HCC := Lib.hid CC
  clear hb01 hw1 hs1 FB CC
  go_enter Try.func17, Try.ntmps17
  go_wp2_with fail
  rw [← HW1.out]
  refine (HFB.out w1 HB01.out).mono ?_
  rintro en w2 ⟨rfl, hbn⟩
  have hbw2 : Below w1.heap.size w1 w2 := hbn
  clear hbn
  have he := HE.out
  rw [← hbw2.block _ (by rw [HS1.out]; omega)] at he
  have hz := HZ.out
  rw [← hbw2.block _ (by rw [HS1.out]; omega)] at hz
  have e0 : w2.cell? ⟨w.heap.size, 0, none⟩ = some (.int .i64 op) := (cell_of_row w2 _ 0 _ _ _ he).trans rfl
  have e1 : w2.cell? ⟨w.heap.size, 1, none⟩ = some (.int .i64 f) := (cell_of_row w2 _ 1 _ _ _ he).trans rfl
  have e2 : w2.cell? ⟨w.heap.size, 2, none⟩ = some (.int .i64 n) := (cell_of_row w2 _ 2 _ _ _ he).trans rfl
  have e3 : w2.cell? ⟨w.heap.size, 3, none⟩ = some (.string nm) := (cell_of_row w2 _ 3 _ _ _ he).trans rfl
  have e4 : w2.cell? ⟨w.heap.size, 4, none⟩ = some (.slice ta tk tc) := (cell_of_row w2 _ 4 _ _ _ he).trans rfl
  have e5 : w2.cell? ⟨w.heap.size, 5, none⟩ = some (.int .i32 i) := (cell_of_row w2 _ 5 _ _ _ he).trans rfl
  have e6 : w2.cell? ⟨w.heap.size, 6, none⟩ = some (.string s) := (cell_of_row w2 _ 6 _ _ _ he).trans rfl
  have e7 : w2.cell? ⟨w.heap.size, 7, none⟩ = some (.slice xa k xc) := (cell_of_row w2 _ 7 _ _ _ he).trans rfl
  have z0 : w2.cell? ⟨w.heap.size + 1, 0, none⟩ = some (.int .i64 0) := (cell_of_row w2 _ 0 _ _ _ hz).trans rfl
  have zf0 := frozen_of_row w2 (w.heap.size + 1) 0 _ _ hz
  have z1 : w2.cell? ⟨w.heap.size + 1, 1, none⟩ = some (.int .i64 0) := (cell_of_row w2 _ 1 _ _ _ hz).trans rfl
  have zf1 := frozen_of_row w2 (w.heap.size + 1) 1 _ _ hz
  have z2 : w2.cell? ⟨w.heap.size + 1, 2, none⟩ = some (.int .i64 0) := (cell_of_row w2 _ 2 _ _ _ hz).trans rfl
  have zf2 := frozen_of_row w2 (w.heap.size + 1) 2 _ _ hz
  have z3 : w2.cell? ⟨w.heap.size + 1, 3, none⟩ = some (.string { data := #[] }) := (cell_of_row w2 _ 3 _ _ _ hz).trans rfl
  have zf3 := frozen_of_row w2 (w.heap.size + 1) 3 _ _ hz
  have z4 : w2.cell? ⟨w.heap.size + 1, 4, none⟩ = some (.slice none 0 0) := (cell_of_row w2 _ 4 _ _ _ hz).trans rfl
  have zf4 := frozen_of_row w2 (w.heap.size + 1) 4 _ _ hz
  have z5 : w2.cell? ⟨w.heap.size + 1, 5, none⟩ = some (.int .i32 0) := (cell_of_row w2 _ 5 _ _ _ hz).trans rfl
  have zf5 := frozen_of_row w2 (w.heap.size + 1) 5 _ _ hz
  have z6 : w2.cell? ⟨w.heap.size + 1, 6, none⟩ = some (.string { data := #[] }) := (cell_of_row w2 _ 6 _ _ _ hz).trans rfl
  have zf6 := frozen_of_row w2 (w.heap.size + 1) 6 _ _ hz
  have z7 : w2.cell? ⟨w.heap.size + 1, 7, none⟩ = some (.slice none 0 0) := (cell_of_row w2 _ 7 _ _ _ hz).trans rfl
  have zf7 := frozen_of_row w2 (w.heap.size + 1) 7 _ _ hz
  have HSMw2 := Lib.hid (show ∀ j, j < 8 → (w2.cell? ⟨w.heap.size + 1, j, none⟩).isSome = true from fun j hj => some8 hz j hj)
  have HBw2 := Lib.hid hbw2
  have hzw2 := hbw2.size
  clear he hz hbw2
  go_wp2_with fail
  refine (HCC.out w2 (HB01.out.trans (HBw2.out.mono (by rw [HS1.out]; omega)))).mono ?_
  rintro en w3 ⟨rfl, hbn⟩
  have hbw3 : Below w1.heap.size w1 w3 := HBw2.out.trans (hbn.mono HBw2.out.size)
  clear hbn
  clear e0 e1 e2 e3 e4 e5 e6 e7
  clear z0 zf0 z1 zf1 z2 zf2 z3 zf3 z4 zf4 z5 zf5 z6 zf6 z7 zf7
  have he := HE.out
  rw [← hbw3.block _ (by rw [HS1.out]; omega)] at he
  have hz := HZ.out
  rw [← hbw3.block _ (by rw [HS1.out]; omega)] at hz
  have e0 : w3.cell? ⟨w.heap.size, 0, none⟩ = some (.int .i64 op) := (cell_of_row w3 _ 0 _ _ _ he).trans rfl
  have e1 : w3.cell? ⟨w.heap.size, 1, none⟩ = some (.int .i64 f) := (cell_of_row w3 _ 1 _ _ _ he).trans rfl
  have e2 : w3.cell? ⟨w.heap.size, 2, none⟩ = some (.int .i64 n) := (cell_of_row w3 _ 2 _ _ _ he).trans rfl
  have e3 : w3.cell? ⟨w.heap.size, 3, none⟩ = some (.string nm) := (cell_of_row w3 _ 3 _ _ _ he).trans rfl
  have e4 : w3.cell? ⟨w.heap.size, 4, none⟩ = some (.slice ta tk tc) := (cell_of_row w3 _ 4 _ _ _ he).trans rfl
  have e5 : w3.cell? ⟨w.heap.size, 5, none⟩ = some (.int .i32 i) := (cell_of_row w3 _ 5 _ _ _ he).trans rfl
  have e6 : w3.cell? ⟨w.heap.size, 6, none⟩ = some (.string s) := (cell_of_row w3 _ 6 _ _ _ he).trans rfl
  have e7 : w3.cell? ⟨w.heap.size, 7, none⟩ = some (.slice xa k xc) := (cell_of_row w3 _ 7 _ _ _ he).trans rfl
  have z0 : w3.cell? ⟨w.heap.size + 1, 0, none⟩ = some (.int .i64 0) := (cell_of_row w3 _ 0 _ _ _ hz).trans rfl
  have zf0 := frozen_of_row w3 (w.heap.size + 1) 0 _ _ hz
  have z1 : w3.cell? ⟨w.heap.size + 1, 1, none⟩ = some (.int .i64 0) := (cell_of_row w3 _ 1 _ _ _ hz).trans rfl
  have zf1 := frozen_of_row w3 (w.heap.size + 1) 1 _ _ hz
  have z2 : w3.cell? ⟨w.heap.size + 1, 2, none⟩ = some (.int .i64 0) := (cell_of_row w3 _ 2 _ _ _ hz).trans rfl
  have zf2 := frozen_of_row w3 (w.heap.size + 1) 2 _ _ hz
  have z3 : w3.cell? ⟨w.heap.size + 1, 3, none⟩ = some (.string { data := #[] }) := (cell_of_row w3 _ 3 _ _ _ hz).trans rfl
  have zf3 := frozen_of_row w3 (w.heap.size + 1) 3 _ _ hz
  have z4 : w3.cell? ⟨w.heap.size + 1, 4, none⟩ = some (.slice none 0 0) := (cell_of_row w3 _ 4 _ _ _ hz).trans rfl
  have zf4 := frozen_of_row w3 (w.heap.size + 1) 4 _ _ hz
  have z5 : w3.cell? ⟨w.heap.size + 1, 5, none⟩ = some (.int .i32 0) := (cell_of_row w3 _ 5 _ _ _ hz).trans rfl
  have zf5 := frozen_of_row w3 (w.heap.size + 1) 5 _ _ hz
  have z6 : w3.cell? ⟨w.heap.size + 1, 6, none⟩ = some (.string { data := #[] }) := (cell_of_row w3 _ 6 _ _ _ hz).trans rfl
  have zf6 := frozen_of_row w3 (w.heap.size + 1) 6 _ _ hz
  have z7 : w3.cell? ⟨w.heap.size + 1, 7, none⟩ = some (.slice none 0 0) := (cell_of_row w3 _ 7 _ _ _ hz).trans rfl
  have zf7 := frozen_of_row w3 (w.heap.size + 1) 7 _ _ hz
  have HSMw3 := Lib.hid (show ∀ j, j < 8 → (w3.cell? ⟨w.heap.size + 1, j, none⟩).isSome = true from fun j hj => some8 hz j hj)
  have HBw3 := Lib.hid hbw3
  have hzw3 := hbw3.size
  clear he hz hbw3
  go_wp2_with fail
  refine (num_ref w3 f _).mono ?_
  rintro en w4 ⟨he, hbn⟩
  obtain rfl : en = .returned (.agg #[.int .i64 0, .int .i64 f, .int .i64 0, .string ByteArray.empty, .slice none 0 0, .int .i32 (v), .string ByteArray.empty, .slice none 0 0]) := he
  have hbw4 : Below w1.heap.size w1 w4 := HBw3.out.trans (hbn.mono HBw3.out.size)
  clear hbn
  clear e0 e1 e2 e3 e4 e5 e6 e7
  clear z0 zf0 z1 zf1 z2 zf2 z3 zf3 z4 zf4 z5 zf5 z6 zf6 z7 zf7
  have he := HE.out
  rw [← hbw4.block _ (by rw [HS1.out]; omega)] at he
  have hz := HZ.out
  rw [← hbw4.block _ (by rw [HS1.out]; omega)] at hz
  have e0 : w4.cell? ⟨w.heap.size, 0, none⟩ = some (.int .i64 op) := (cell_of_row w4 _ 0 _ _ _ he).trans rfl
  have e1 : w4.cell? ⟨w.heap.size, 1, none⟩ = some (.int .i64 f) := (cell_of_row w4 _ 1 _ _ _ he).trans rfl
  have e2 : w4.cell? ⟨w.heap.size, 2, none⟩ = some (.int .i64 n) := (cell_of_row w4 _ 2 _ _ _ he).trans rfl
  have e3 : w4.cell? ⟨w.heap.size, 3, none⟩ = some (.string nm) := (cell_of_row w4 _ 3 _ _ _ he).trans rfl
  have e4 : w4.cell? ⟨w.heap.size, 4, none⟩ = some (.slice ta tk tc) := (cell_of_row w4 _ 4 _ _ _ he).trans rfl
  have e5 : w4.cell? ⟨w.heap.size, 5, none⟩ = some (.int .i32 i) := (cell_of_row w4 _ 5 _ _ _ he).trans rfl
  have e6 : w4.cell? ⟨w.heap.size, 6, none⟩ = some (.string s) := (cell_of_row w4 _ 6 _ _ _ he).trans rfl
  have e7 : w4.cell? ⟨w.heap.size, 7, none⟩ = some (.slice xa k xc) := (cell_of_row w4 _ 7 _ _ _ he).trans rfl
  have z0 : w4.cell? ⟨w.heap.size + 1, 0, none⟩ = some (.int .i64 0) := (cell_of_row w4 _ 0 _ _ _ hz).trans rfl
  have zf0 := frozen_of_row w4 (w.heap.size + 1) 0 _ _ hz
  have z1 : w4.cell? ⟨w.heap.size + 1, 1, none⟩ = some (.int .i64 0) := (cell_of_row w4 _ 1 _ _ _ hz).trans rfl
  have zf1 := frozen_of_row w4 (w.heap.size + 1) 1 _ _ hz
  have z2 : w4.cell? ⟨w.heap.size + 1, 2, none⟩ = some (.int .i64 0) := (cell_of_row w4 _ 2 _ _ _ hz).trans rfl
  have zf2 := frozen_of_row w4 (w.heap.size + 1) 2 _ _ hz
  have z3 : w4.cell? ⟨w.heap.size + 1, 3, none⟩ = some (.string { data := #[] }) := (cell_of_row w4 _ 3 _ _ _ hz).trans rfl
  have zf3 := frozen_of_row w4 (w.heap.size + 1) 3 _ _ hz
  have z4 : w4.cell? ⟨w.heap.size + 1, 4, none⟩ = some (.slice none 0 0) := (cell_of_row w4 _ 4 _ _ _ hz).trans rfl
  have zf4 := frozen_of_row w4 (w.heap.size + 1) 4 _ _ hz
  have z5 : w4.cell? ⟨w.heap.size + 1, 5, none⟩ = some (.int .i32 0) := (cell_of_row w4 _ 5 _ _ _ hz).trans rfl
  have zf5 := frozen_of_row w4 (w.heap.size + 1) 5 _ _ hz
  have z6 : w4.cell? ⟨w.heap.size + 1, 6, none⟩ = some (.string { data := #[] }) := (cell_of_row w4 _ 6 _ _ _ hz).trans rfl
  have zf6 := frozen_of_row w4 (w.heap.size + 1) 6 _ _ hz
  have z7 : w4.cell? ⟨w.heap.size + 1, 7, none⟩ = some (.slice none 0 0) := (cell_of_row w4 _ 7 _ _ _ hz).trans rfl
  have zf7 := frozen_of_row w4 (w.heap.size + 1) 7 _ _ hz
  have HSMw4 := Lib.hid (show ∀ j, j < 8 → (w4.cell? ⟨w.heap.size + 1, j, none⟩).isSome = true from fun j hj => some8 hz j hj)
  have HBw4 := Lib.hid hbw4
  have hzw4 := hbw4.size
  clear he hz hbw4
  go_wp2_with fail
  exact bodyPost_ret (v := .tuple #[.agg #[.int .i64 0, .int .i64 f, .int .i64 0, .string ByteArray.empty, .slice none 0 0, .int .i32 (v), .string ByteArray.empty, .slice none 0 0], .int .i64 (0)]) (by simp [results, Try.results17, go_sem, HSMw4.out 0, HSMw4.out 1, HSMw4.out 2, HSMw4.out 3, HSMw4.out 4, HSMw4.out 5, HSMw4.out 6, HSMw4.out 7]; try rfl) rfl ⟨rfl, below_set8n (HB01.out.trans (HBw4.out.mono (by rw [HS1.out]; omega))) (by omega) _ _ _ _ _ _ _ _⟩

set_option maxHeartbeats 3200000 in
theorem fold_err (w : World) (op f n i : Int) (nm s : ByteArray) (tk tc k xc : Nat) (ta xa : Option Addr) (v : Int) (FB : ∀ W, Below w.heap.size w W → Calls Try.prog 30 #[.agg #[.int .i64 op, .int .i64 f, .int .i64 n, .string nm, .slice ta tk tc, .int .i32 i, .string s, .slice xa k xc]] W fun en w' => en = .returned (.bool true) ∧ Below W.heap.size W w') (CC : ∀ W, Below w.heap.size w W → Calls Try.prog 31 #[.agg #[.int .i64 op, .int .i64 f, .int .i64 n, .string nm, .slice ta tk tc, .int .i32 i, .string s, .slice xa k xc]] W fun en w' => en = .returned (.tuple #[.int .i32 v, .bool false]) ∧ Below W.heap.size W w') : Calls Try.prog 17 #[.agg #[.int .i64 op, .int .i64 f, .int .i64 n, .string nm, .slice ta tk tc, .int .i32 i, .string s, .slice xa k xc]] w fun en w' => en = .returned (.tuple #[.agg #[.int .i64 0, .int .i64 0, .int .i64 0, .string ByteArray.empty, .slice none 0 0, .int .i32 0, .string ByteArray.empty, .slice none 0 0], .int .i64 (33)]) ∧ Below w.heap.size w w' := by
  obtain ⟨w1, hw1⟩ : ∃ w1 : World, w1 = (w.alloc (.cells #[.int .i64 op, .int .i64 f, .int .i64 n, .string nm, .slice ta tk tc, .int .i32 i, .string s, .slice xa k xc] 27)).alloc (.cells #[.int .i64 0, .int .i64 0, .int .i64 0, .string { data := #[] }, .slice none 0 0, .int .i32 0, .string { data := #[] }, .slice none 0 0] 27) := ⟨_, rfl⟩
  have hs1 : w1.heap.size = w.heap.size + 2 := by rw [hw1]; simp
  have HE := Lib.hid (show w1.heap[w.heap.size]? = some (.cells #[.int .i64 op, .int .i64 f, .int .i64 n, .string nm, .slice ta tk tc, .int .i32 i, .string s, .slice xa k xc] 27 (0, 0)) from by rw [hw1]; exact heap_alloc2_old w _ _)
  have HZ := Lib.hid (show w1.heap[w.heap.size + 1]? = some (.cells #[.int .i64 0, .int .i64 0, .int .i64 0, .string { data := #[] }, .slice none 0 0, .int .i32 0, .string { data := #[] }, .slice none 0 0] 27 (0, 0)) from by rw [hw1]; exact heap_alloc2_new w _ _)
  have hb01 : Below w.heap.size w w1 := by rw [hw1]; exact ((Below.refl _ _).alloc (Nat.le_refl _) _).alloc (by simp) _
  have HB01 := Lib.hid hb01
  have HW1 := Lib.hid hw1
  have HS1 := Lib.hid hs1
  have HFB := Lib.hid FB
  have HCC := Lib.hid CC
  clear hb01 hw1 hs1 FB CC
  go_enter Try.func17, Try.ntmps17
  go_wp2_with fail
  rw [← HW1.out]
  refine (HFB.out w1 HB01.out).mono ?_
  rintro en w2 ⟨rfl, hbn⟩
  have hbw2 : Below w1.heap.size w1 w2 := hbn
  clear hbn
  have he := HE.out
  rw [← hbw2.block _ (by rw [HS1.out]; omega)] at he
  have hz := HZ.out
  rw [← hbw2.block _ (by rw [HS1.out]; omega)] at hz
  have e0 : w2.cell? ⟨w.heap.size, 0, none⟩ = some (.int .i64 op) := (cell_of_row w2 _ 0 _ _ _ he).trans rfl
  have e1 : w2.cell? ⟨w.heap.size, 1, none⟩ = some (.int .i64 f) := (cell_of_row w2 _ 1 _ _ _ he).trans rfl
  have e2 : w2.cell? ⟨w.heap.size, 2, none⟩ = some (.int .i64 n) := (cell_of_row w2 _ 2 _ _ _ he).trans rfl
  have e3 : w2.cell? ⟨w.heap.size, 3, none⟩ = some (.string nm) := (cell_of_row w2 _ 3 _ _ _ he).trans rfl
  have e4 : w2.cell? ⟨w.heap.size, 4, none⟩ = some (.slice ta tk tc) := (cell_of_row w2 _ 4 _ _ _ he).trans rfl
  have e5 : w2.cell? ⟨w.heap.size, 5, none⟩ = some (.int .i32 i) := (cell_of_row w2 _ 5 _ _ _ he).trans rfl
  have e6 : w2.cell? ⟨w.heap.size, 6, none⟩ = some (.string s) := (cell_of_row w2 _ 6 _ _ _ he).trans rfl
  have e7 : w2.cell? ⟨w.heap.size, 7, none⟩ = some (.slice xa k xc) := (cell_of_row w2 _ 7 _ _ _ he).trans rfl
  have z0 : w2.cell? ⟨w.heap.size + 1, 0, none⟩ = some (.int .i64 0) := (cell_of_row w2 _ 0 _ _ _ hz).trans rfl
  have zf0 := frozen_of_row w2 (w.heap.size + 1) 0 _ _ hz
  have z1 : w2.cell? ⟨w.heap.size + 1, 1, none⟩ = some (.int .i64 0) := (cell_of_row w2 _ 1 _ _ _ hz).trans rfl
  have zf1 := frozen_of_row w2 (w.heap.size + 1) 1 _ _ hz
  have z2 : w2.cell? ⟨w.heap.size + 1, 2, none⟩ = some (.int .i64 0) := (cell_of_row w2 _ 2 _ _ _ hz).trans rfl
  have zf2 := frozen_of_row w2 (w.heap.size + 1) 2 _ _ hz
  have z3 : w2.cell? ⟨w.heap.size + 1, 3, none⟩ = some (.string { data := #[] }) := (cell_of_row w2 _ 3 _ _ _ hz).trans rfl
  have zf3 := frozen_of_row w2 (w.heap.size + 1) 3 _ _ hz
  have z4 : w2.cell? ⟨w.heap.size + 1, 4, none⟩ = some (.slice none 0 0) := (cell_of_row w2 _ 4 _ _ _ hz).trans rfl
  have zf4 := frozen_of_row w2 (w.heap.size + 1) 4 _ _ hz
  have z5 : w2.cell? ⟨w.heap.size + 1, 5, none⟩ = some (.int .i32 0) := (cell_of_row w2 _ 5 _ _ _ hz).trans rfl
  have zf5 := frozen_of_row w2 (w.heap.size + 1) 5 _ _ hz
  have z6 : w2.cell? ⟨w.heap.size + 1, 6, none⟩ = some (.string { data := #[] }) := (cell_of_row w2 _ 6 _ _ _ hz).trans rfl
  have zf6 := frozen_of_row w2 (w.heap.size + 1) 6 _ _ hz
  have z7 : w2.cell? ⟨w.heap.size + 1, 7, none⟩ = some (.slice none 0 0) := (cell_of_row w2 _ 7 _ _ _ hz).trans rfl
  have zf7 := frozen_of_row w2 (w.heap.size + 1) 7 _ _ hz
  have HSMw2 := Lib.hid (show ∀ j, j < 8 → (w2.cell? ⟨w.heap.size + 1, j, none⟩).isSome = true from fun j hj => some8 hz j hj)
  have HBw2 := Lib.hid hbw2
  have hzw2 := hbw2.size
  clear he hz hbw2
  go_wp2_with fail
  refine (HCC.out w2 (HB01.out.trans (HBw2.out.mono (by rw [HS1.out]; omega)))).mono ?_
  rintro en w3 ⟨rfl, hbn⟩
  have hbw3 : Below w1.heap.size w1 w3 := HBw2.out.trans (hbn.mono HBw2.out.size)
  clear hbn
  clear e0 e1 e2 e3 e4 e5 e6 e7
  clear z0 zf0 z1 zf1 z2 zf2 z3 zf3 z4 zf4 z5 zf5 z6 zf6 z7 zf7
  have he := HE.out
  rw [← hbw3.block _ (by rw [HS1.out]; omega)] at he
  have hz := HZ.out
  rw [← hbw3.block _ (by rw [HS1.out]; omega)] at hz
  have e0 : w3.cell? ⟨w.heap.size, 0, none⟩ = some (.int .i64 op) := (cell_of_row w3 _ 0 _ _ _ he).trans rfl
  have e1 : w3.cell? ⟨w.heap.size, 1, none⟩ = some (.int .i64 f) := (cell_of_row w3 _ 1 _ _ _ he).trans rfl
  have e2 : w3.cell? ⟨w.heap.size, 2, none⟩ = some (.int .i64 n) := (cell_of_row w3 _ 2 _ _ _ he).trans rfl
  have e3 : w3.cell? ⟨w.heap.size, 3, none⟩ = some (.string nm) := (cell_of_row w3 _ 3 _ _ _ he).trans rfl
  have e4 : w3.cell? ⟨w.heap.size, 4, none⟩ = some (.slice ta tk tc) := (cell_of_row w3 _ 4 _ _ _ he).trans rfl
  have e5 : w3.cell? ⟨w.heap.size, 5, none⟩ = some (.int .i32 i) := (cell_of_row w3 _ 5 _ _ _ he).trans rfl
  have e6 : w3.cell? ⟨w.heap.size, 6, none⟩ = some (.string s) := (cell_of_row w3 _ 6 _ _ _ he).trans rfl
  have e7 : w3.cell? ⟨w.heap.size, 7, none⟩ = some (.slice xa k xc) := (cell_of_row w3 _ 7 _ _ _ he).trans rfl
  have z0 : w3.cell? ⟨w.heap.size + 1, 0, none⟩ = some (.int .i64 0) := (cell_of_row w3 _ 0 _ _ _ hz).trans rfl
  have zf0 := frozen_of_row w3 (w.heap.size + 1) 0 _ _ hz
  have z1 : w3.cell? ⟨w.heap.size + 1, 1, none⟩ = some (.int .i64 0) := (cell_of_row w3 _ 1 _ _ _ hz).trans rfl
  have zf1 := frozen_of_row w3 (w.heap.size + 1) 1 _ _ hz
  have z2 : w3.cell? ⟨w.heap.size + 1, 2, none⟩ = some (.int .i64 0) := (cell_of_row w3 _ 2 _ _ _ hz).trans rfl
  have zf2 := frozen_of_row w3 (w.heap.size + 1) 2 _ _ hz
  have z3 : w3.cell? ⟨w.heap.size + 1, 3, none⟩ = some (.string { data := #[] }) := (cell_of_row w3 _ 3 _ _ _ hz).trans rfl
  have zf3 := frozen_of_row w3 (w.heap.size + 1) 3 _ _ hz
  have z4 : w3.cell? ⟨w.heap.size + 1, 4, none⟩ = some (.slice none 0 0) := (cell_of_row w3 _ 4 _ _ _ hz).trans rfl
  have zf4 := frozen_of_row w3 (w.heap.size + 1) 4 _ _ hz
  have z5 : w3.cell? ⟨w.heap.size + 1, 5, none⟩ = some (.int .i32 0) := (cell_of_row w3 _ 5 _ _ _ hz).trans rfl
  have zf5 := frozen_of_row w3 (w.heap.size + 1) 5 _ _ hz
  have z6 : w3.cell? ⟨w.heap.size + 1, 6, none⟩ = some (.string { data := #[] }) := (cell_of_row w3 _ 6 _ _ _ hz).trans rfl
  have zf6 := frozen_of_row w3 (w.heap.size + 1) 6 _ _ hz
  have z7 : w3.cell? ⟨w.heap.size + 1, 7, none⟩ = some (.slice none 0 0) := (cell_of_row w3 _ 7 _ _ _ hz).trans rfl
  have zf7 := frozen_of_row w3 (w.heap.size + 1) 7 _ _ hz
  have HSMw3 := Lib.hid (show ∀ j, j < 8 → (w3.cell? ⟨w.heap.size + 1, j, none⟩).isSome = true from fun j hj => some8 hz j hj)
  have HBw3 := Lib.hid hbw3
  have hzw3 := hbw3.size
  clear he hz hbw3
  go_wp2_with fail
  exact bodyPost_ret (v := .tuple #[.agg #[.int .i64 0, .int .i64 0, .int .i64 0, .string ByteArray.empty, .slice none 0 0, .int .i32 0, .string ByteArray.empty, .slice none 0 0], .int .i64 (33)]) (by simp [results, Try.results17, go_sem, HSMw3.out 0, HSMw3.out 1, HSMw3.out 2, HSMw3.out 3, HSMw3.out 4, HSMw3.out 5, HSMw3.out 6, HSMw3.out 7]; try rfl) rfl ⟨rfl, below_set8n (HB01.out.trans (HBw3.out.mono (by rw [HS1.out]; omega))) (by omega) _ _ _ _ _ _ _ _⟩
theorem fold_ref (w : World) (e : Ex) (tv xv : Value) (hok : ExOk w e tv xv) (hfit : Fit e) : Calls Try.prog 17 #[exV e tv xv] w (FoldRet e tv xv (fv e) w) := by
  have FB := fun W (hb : Below w.heap.size w W) => foldable_ref W e tv xv (ExOk.below hb (Nat.le_refl _) _ _ _ hok)
  have CC := fun v t (hv : fv e = some (v, t)) W (hb : Below w.heap.size w W) => constant_ref W e tv xv v t (ExOk.below hb (Nat.le_refl _) _ _ _ hok) hfit hv
  obtain ⟨ta, tc, rfl, t1, t2⟩ := hok.ty.shape
  obtain ⟨xa, xc, rfl, h1, h2, hx⟩ := hok.shape
  cases hv : fv e with
  | none =>
    rw [hv] at FB
    exact fold_none w e.op e.t.form e.t.num e.i e.t.name e.s e.t.k tc e.k xc ta xa FB
  | some p =>
    obtain ⟨v, t⟩ := p
    rw [hv] at FB
    cases t with
    | true => exact fold_yes w e.op e.t.form e.t.num e.i e.t.name e.s e.t.k tc e.k xc ta xa v FB (CC v true hv)
    | false => exact fold_err w e.op e.t.form e.t.num e.i e.t.name e.s e.t.k tc e.k xc ta xa v FB (CC v false hv)
end Go.Proofs.Ytiikeilpgajmfaa
