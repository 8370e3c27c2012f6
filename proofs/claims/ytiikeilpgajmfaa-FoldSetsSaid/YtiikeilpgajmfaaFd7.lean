/- Fold: fold.Expr. (Printed by gen_fd7.py.) -/
import Derived.Test.YtiikeilpgajmfaaFd6
import Derived.Test.YtiikeilpgajmfaaOrd
namespace Go.Proofs.Ytiikeilpgajmfaa
open Go.RowKit Go.Waf
set_option maxRecDepth 100000
set_option linter.unusedVariables false
set_option linter.unusedSimpArgs false

/-- Numbers within their kinds. -/
def Fit : Ex → Prop
  | .none => True
  | .mk _ _ i _ k x => (-2147483648 ≤ i ∧ i ≤ 2147483647) ∧ ∀ j, j < k → Fit (x j)
theorem Fit.here {e : Ex} (h : Fit e) : -2147483648 ≤ e.i ∧ e.i ≤ 2147483647 := by
  cases e with
  | none => exact ⟨by decide, by decide⟩
  | mk op t i s k x => exact h.1
theorem Fit.part {e : Ex} (h : Fit e) (j : Nat) (hj : j < e.k) : Fit (e.x j) := by
  cases e with
  | none => exact absurd hj (by simp [Ex.k])
  | mk op t i s k x => exact h.2 j hj
open Classical in
/-- What an expression is folded to: nothing, or a number, or an error. -/
noncomputable def fv (e : Ex) : Option (Int × Bool) :=
  if e.op = 24 ∧ elems e.k e.x = true then some (setV e.x e.k, setB e.x e.k)
  else if isUn e.op ∧ e.k = 1 ∧ allC e.k e.x = true then some (unI e.op (e.x 0).t.form (e.x 0).i, unB e.op (e.x 0).i)
  else if isBi e.op ∧ e.k = 2 ∧ allC e.k e.x = true then some (biI e.op (e.x 0).t.form (e.x 0).i (e.x 1).i, biB e.op (e.x 0).t.form (e.x 1).i)
  else none
def fE (e : Ex) : Option (Int × Bool) → Ex
  | none => e
  | some (v, true) => numE e.t.form v
  | some (_, false) => numE 0 0
def fT (tv : Value) : Option (Int × Bool) → Value
  | none => tv
  | some _ => .slice none 0 0
def fC : Option (Int × Bool) → Int
  | some (_, false) => 33
  | _ => 0
def FoldRet (e : Ex) (tv xv : Value) (o : Option (Int × Bool)) (w : World) (en : Ending) (w' : World) : Prop := en = .returned (.tuple #[exV (fE e o) (fT tv o) (fT xv o), .int .i64 (fC o)]) ∧ Below w.heap.size w w'
theorem below_set8n {w w1 : World} {b0 b : Nat} (h : Below b0 w w1) (hb : b0 ≤ b) (v0 v1 v2 v3 v4 v5 v6 v7 : Value) :
    Below b0 w ((((((((w1.setCell ⟨b, 0, none⟩ v0).setCell ⟨b, 1, none⟩ v1).setCell ⟨b, 2, none⟩ v2).setCell ⟨b, 3, none⟩ v3).setCell ⟨b, 4, none⟩ v4).setCell ⟨b, 5, none⟩ v5).setCell ⟨b, 6, none⟩ v6).setCell ⟨b, 7, none⟩ v7) :=
  (((((((h.setCell hb _).setCell hb _).setCell hb _).setCell hb _).setCell hb _).setCell hb _).setCell hb _).setCell hb _

set_option maxHeartbeats 6400000 in
theorem fexpr_self0 (w : World) (op f n i : Int) (nm s : ByteArray) (tk tc k xc : Nat) (ta xa : Option Addr) (x : Nat → Ex) (hx : ExsAt w xa k x) (h1 : k ≤ xc) (h2 : xc ≤ 9223372036854775807) (ho : ¬ op = 24) (hc : ¬ ((7 ≤ op ∧ op ≤ 22) ∨ (27 ≤ op ∧ op ≤ 33))) : Calls Try.prog 13 #[.agg #[.int .i64 op, .int .i64 f, .int .i64 n, .string nm, .slice ta tk tc, .int .i32 i, .string s, .slice xa k xc]] w fun en w' => en = .returned (.tuple #[.agg #[.int .i64 op, .int .i64 f, .int .i64 n, .string nm, .slice ta tk tc, .int .i32 i, .string s, .slice xa k xc], .int .i64 (0)]) ∧ Below w.heap.size w w' := by
  clear hx
  go_enter Try.func13, Try.ntmps13
  go_wp2_with (go_at_call 22; refine (count_none _ _ (by omega)).mono ?_; rintro en w2 ⟨rfl, rfl⟩)
  exact bodyPost_ret (v := .tuple #[.agg #[.int .i64 op, .int .i64 f, .int .i64 n, .string nm, .slice ta tk tc, .int .i32 i, .string s, .slice xa k xc], .int .i64 0]) (by simp [results, Try.results13, go_sem]) rfl ⟨rfl, ((Below.refl _ _).alloc (Nat.le_refl _) _).alloc (by simp) _⟩
theorem count_c (w : World) (op c : Int) (h : (7 ≤ op ∧ op ≤ 22) ∨ (27 ≤ op ∧ op ≤ 33)) (hc : c = cnt op) : Calls Try.prog 22 #[.int .i64 op] w fun en w' => en = .returned (.tuple #[.int .i64 c, .bool true]) ∧ w = w' := by
  subst hc; exact count_some w op h

set_option maxHeartbeats 6400000 in
theorem fexpr_self1 (w : World) (op f n i : Int) (nm s : ByteArray) (tk tc k xc : Nat) (ta xa : Option Addr) (x : Nat → Ex) (hx : ExsAt w xa k x) (h1 : k ≤ xc) (h2 : xc ≤ 9223372036854775807) (ho : ¬ op = 24) (hc : (7 ≤ op ∧ op ≤ 22) ∨ (27 ≤ op ∧ op ≤ 33)) (hk : ¬ (k : Int) = cnt op) : Calls Try.prog 13 #[.agg #[.int .i64 op, .int .i64 f, .int .i64 n, .string nm, .slice ta tk tc, .int .i32 i, .string s, .slice xa k xc]] w fun en w' => en = .returned (.tuple #[.agg #[.int .i64 op, .int .i64 f, .int .i64 n, .string nm, .slice ta tk tc, .int .i32 i, .string s, .slice xa k xc], .int .i64 (0)]) ∧ Below w.heap.size w w' := by
  clear hx
  obtain ⟨c, hcc⟩ : ∃ c, c = cnt op := ⟨_, rfl⟩
  rw [← hcc] at hk
  have HCC := Lib.hid hcc
  clear hcc
  go_enter Try.func13, Try.ntmps13
  go_wp2_with (go_at_call 22; refine (count_c _ _ _ hc HCC.out).mono ?_; rintro en w2 ⟨rfl, rfl⟩)
  exact bodyPost_ret (v := .tuple #[.agg #[.int .i64 op, .int .i64 f, .int .i64 n, .string nm, .slice ta tk tc, .int .i32 i, .string s, .slice xa k xc], .int .i64 0]) (by simp [results, Try.results13, go_sem]) rfl ⟨rfl, ((Below.refl _ _).alloc (Nat.le_refl _) _).alloc (by simp) _⟩

set_option maxHeartbeats 6400000 in
theorem fexpr_self2 (w : World) (op f n i : Int) (nm s : ByteArray) (tk tc k xc : Nat) (ta xa : Option Addr) (x : Nat → Ex) (hx : ExsAt w xa k x) (h1 : k ≤ xc) (h2 : xc ≤ 9223372036854775807) (ho : ¬ op = 24) (hc : (7 ≤ op ∧ op ≤ 22) ∨ (27 ≤ op ∧ op ≤ 33)) (hk : (k : Int) = cnt op) (ha : allC k x = false) : Calls Try.prog 13 #[.agg #[.int .i64 op, .int .i64 f, .int .i64 n, .string nm, .slice ta tk tc, .int .i32 i, .string s, .slice xa k xc]] w fun en w' => en = .returned (.tuple #[.agg #[.int .i64 op, .int .i64 f, .int .i64 n, .string nm, .slice ta tk tc, .int .i32 i, .string s, .slice xa k xc], .int .i64 (0)]) ∧ Below w.heap.size w w' := by
  obtain ⟨w1, hw1⟩ : ∃ w1 : World, w1 = (w.alloc (.cells #[.int .i64 op, .int .i64 f, .int .i64 n, .string nm, .slice ta tk tc, .int .i32 i, .string s, .slice xa k xc] 27)).alloc (.cells #[.int .i64 0, .int .i64 0, .int .i64 0, .string { data := #[] }, .slice none 0 0, .int .i32 0, .string { data := #[] }, .slice none 0 0] 27) := ⟨_, rfl⟩
  have hs1 : w1.heap.size = w.heap.size + 2 := by rw [hw1]; simp
  have HE := Lib.hid (show w1.heap[w.heap.size]? = some (.cells #[.int .i64 op, .int .i64 f, .int .i64 n, .string nm, .slice ta tk tc, .int .i32 i, .string s, .slice xa k xc] 27 (0, 0)) from by rw [hw1]; exact heap_alloc2_old w _ _)
  have HZ := Lib.hid (show w1.heap[w.heap.size + 1]? = some (.cells #[.int .i64 0, .int .i64 0, .int .i64 0, .string { data := #[] }, .slice none 0 0, .int .i32 0, .string { data := #[] }, .slice none 0 0] 27 (0, 0)) from by rw [hw1]; exact heap_alloc2_new w _ _)
  have hb01 : Below w.heap.size w w1 := by rw [hw1]; exact ((Below.refl _ _).alloc (Nat.le_refl _) _).alloc (by simp) _
  have HB01 := Lib.hid hb01
  have HX := Lib.hid (hx.below hb01 (Nat.le_refl _))
  have HW1 := Lib.hid hw1
  have HS1 := Lib.hid hs1
  obtain ⟨c, hcc⟩ : ∃ c, c = cnt op := ⟨_, rfl⟩
  rw [← hcc] at hk
  have HCC := Lib.hid hcc
  have HA := Lib.hid ha
  clear hcc hb01 hw1 hs1 hx ha
  go_enter Try.func13, Try.ntmps13
  go_wp2_with (go_at_call 22; refine (count_c _ _ _ hc HCC.out).mono ?_; rintro en w2 ⟨rfl, rfl⟩)
  rw [← HW1.out]
  refine (all_prog w1 xa k xc x HX.out h1 h2).mono ?_
  rintro en w2 ⟨rfl, hbn⟩
  have hbw2 : Below w1.heap.size w1 w2 := hbn
  clear hbn
  rw [HA.out]
  have he := HE.out
  rw [← hbw2.block _ (by rw [HS1.out]; omega)] at he
  have hz := HZ.out
  rw [← hbw2.block _ (by rw [HS1.out]; omega)] at hz
  have e0 : w2.cell? ⟨w.heap.size, 0, none⟩ = some (.int .i64 op) := (cell_of_row w2 _ 0 _ _ _ he).trans rfl
  have e1 : w2.cell? ⟨w.heap.size, 1, none⟩ = some (.int .i64 f) := (cell_of_row w2 _ 1 _ _ _ he).trans rfl
  have e2 : w2.cell? ⟨w.heap.size, 2, none⟩ = some (.int .i64 n) := (cell_of_row w2 _ 2 _ _ _ he).trans rfl
  have e3 : w2.cell? ⟨w.heap.size, 3, none⟩ = some (.string nm) := (cell_of_row w2 _ 3 _ _ _ he).trans rfl
  have e4 : w2.cell? ⟨w.heap.size, 4, none⟩ = some (.slice ta tk tc) := (cell_of_row w2 _ 4 _ _ _ he).trans rfl
  have e5 : w2.cell? ⟨w.heap.size, 5, none⟩ = some (.int .i32 i) := (cell_of_row w2 _ 5 _ _ _ he).trans rfl
  have e6 : w2.cell? ⟨w.heap.size, 6, none⟩ = some (.string s) := (cell_of_row w2 _ 6 _ _ _ he).trans rfl
  have e7 : w2.cell? ⟨w.heap.size, 7, none⟩ = some (.slice xa k xc) := (cell_of_row w2 _ 7 _ _ _ he).trans rfl
  have z0 : w2.cell? ⟨w.heap.size + 1, 0, none⟩ = some (.int .i64 0) := (cell_of_row w2 _ 0 _ _ _ hz).trans rfl
  have zf0 := frozen_of_row w2 (w.heap.size + 1) 0 _ _ hz
  have z1 : w2.cell? ⟨w.heap.size + 1, 1, none⟩ = some (.int .i64 0) := (cell_of_row w2 _ 1 _ _ _ hz).trans rfl
  have zf1 := frozen_of_row w2 (w.heap.size + 1) 1 _ _ hz
  have z2 : w2.cell? ⟨w.heap.size + 1, 2, none⟩ = some (.int .i64 0) := (cell_of_row w2 _ 2 _ _ _ hz).trans rfl
  have zf2 := frozen_of_row w2 (w.heap.size + 1) 2 _ _ hz
  have z3 : w2.cell? ⟨w.heap.size + 1, 3, none⟩ = some (.string { data := #[] }) := (cell_of_row w2 _ 3 _ _ _ hz).trans rfl
  have zf3 := frozen_of_row w2 (w.heap.size + 1) 3 _ _ hz
  have z4 : w2.cell? ⟨w.heap.size + 1, 4, none⟩ = some (.slice none 0 0) := (cell_of_row w2 _ 4 _ _ _ hz).trans rfl
  have zf4 := frozen_of_row w2 (w.heap.size + 1) 4 _ _ hz
  have z5 : w2.cell? ⟨w.heap.size + 1, 5, none⟩ = some (.int .i32 0) := (cell_of_row w2 _ 5 _ _ _ hz).trans rfl
  have zf5 := frozen_of_row w2 (w.heap.size + 1) 5 _ _ hz
  have z6 : w2.cell? ⟨w.heap.size + 1, 6, none⟩ = some (.string { data := #[] }) := (cell_of_row w2 _ 6 _ _ _ hz).trans rfl
  have zf6 := frozen_of_row w2 (w.heap.size + 1) 6 _ _ hz
  have z7 : w2.cell? ⟨w.heap.size + 1, 7, none⟩ = some (.slice none 0 0) := (cell_of_row w2 _ 7 _ _ _ hz).trans rfl
  have zf7 := frozen_of_row w2 (w.heap.size + 1) 7 _ _ hz
  have HSMw2 := Lib.hid (show ∀ j, j < 8 → (w2.cell? ⟨w.heap.size + 1, j, none⟩).isSome = true from fun j hj => some8 hz j hj)
  have HBw2 := Lib.hid hbw2
  have hzw2 := hbw2.size
  clear he hz hbw2
  go_wp2_with fail
  exact bodyPost_ret (v := .tuple #[.agg #[.int .i64 op, .int .i64 f, .int .i64 n, .string nm, .slice ta tk tc, .int .i32 i, .string s, .slice xa k xc], .int .i64 (0)]) (by simp [results, Try.results13, go_sem, HSMw2.out 0, HSMw2.out 1, HSMw2.out 2, HSMw2.out 3, HSMw2.out 4, HSMw2.out 5, HSMw2.out 6, HSMw2.out 7]; try rfl) rfl ⟨rfl, below_set8n (HB01.out.trans (HBw2.out.mono (by rw [HS1.out]; omega))) (by omega) _ _ _ _ _ _ _ _⟩

set_option maxHeartbeats 6400000 in
theorem fexpr_self3 (w : World) (f n i : Int) (nm s : ByteArray) (tk tc k xc : Nat) (ta xa : Option Addr) (x : Nat → Ex) (hx : ExsAt w xa k x) (h1 : k ≤ xc) (h2 : xc ≤ 9223372036854775807) (ha : elems k x = false) : Calls Try.prog 13 #[.agg #[.int .i64 24, .int .i64 f, .int .i64 n, .string nm, .slice ta tk tc, .int .i32 i, .string s, .slice xa k xc]] w fun en w' => en = .returned (.tuple #[.agg #[.int .i64 24, .int .i64 f, .int .i64 n, .string nm, .slice ta tk tc, .int .i32 i, .string s, .slice xa k xc], .int .i64 (0)]) ∧ Below w.heap.size w w' := by
  obtain ⟨w1, hw1⟩ : ∃ w1 : World, w1 = (w.alloc (.cells #[.int .i64 24, .int .i64 f, .int .i64 n, .string nm, .slice ta tk tc, .int .i32 i, .string s, .slice xa k xc] 27)).alloc (.cells #[.int .i64 0, .int .i64 0, .int .i64 0, .string { data := #[] }, .slice none 0 0, .int .i32 0, .string { data := #[] }, .slice none 0 0] 27) := ⟨_, rfl⟩
  have hs1 : w1.heap.size = w.heap.size + 2 := by rw [hw1]; simp
  have HE := Lib.hid (show w1.heap[w.heap.size]? = some (.cells #[.int .i64 24, .int .i64 f, .int .i64 n, .string nm, .slice ta tk tc, .int .i32 i, .string s, .slice xa k xc] 27 (0, 0)) from by rw [hw1]; exact heap_alloc2_old w _ _)
  have HZ := Lib.hid (show w1.heap[w.heap.size + 1]? = some (.cells #[.int .i64 0, .int .i64 0, .int .i64 0, .string { data := #[] }, .slice none 0 0, .int .i32 0, .string { data := #[] }, .slice none 0 0] 27 (0, 0)) from by rw [hw1]; exact heap_alloc2_new w _ _)
  have hb01 : Below w.heap.size w w1 := by rw [hw1]; exact ((Below.refl _ _).alloc (Nat.le_refl _) _).alloc (by simp) _
  have HB01 := Lib.hid hb01
  have HX := Lib.hid (hx.below hb01 (Nat.le_refl _))
  have HW1 := Lib.hid hw1
  have HS1 := Lib.hid hs1
  have HA := Lib.hid ha
  clear hb01 hw1 hs1 hx ha
  go_enter Try.func13, Try.ntmps13
  go_wp2_with (go_at_call 22; refine (count_none _ _ (by omega)).mono ?_; rintro en w2 ⟨rfl, rfl⟩)
  rw [← HW1.out]
  refine (elements_prog w1 xa k xc x HX.out h1 h2).mono ?_
  rintro en w2 ⟨rfl, hbn⟩
  have hbw2 : Below w1.heap.size w1 w2 := hbn
  clear hbn
  rw [HA.out]
  have he := HE.out
  rw [← hbw2.block _ (by rw [HS1.out]; omega)] at he
  have hz := HZ.out
  rw [← hbw2.block _ (by rw [HS1.out]; omega)] at hz
  have e0 : w2.cell? ⟨w.heap.size, 0, none⟩ = some (.int .i64 24) := (cell_of_row w2 _ 0 _ _ _ he).trans rfl
  have e1 : w2.cell? ⟨w.heap.size, 1, none⟩ = some (.int .i64 f) := (cell_of_row w2 _ 1 _ _ _ he).trans rfl
  have e2 : w2.cell? ⟨w.heap.size, 2, none⟩ = some (.int .i64 n) := (cell_of_row w2 _ 2 _ _ _ he).trans rfl
  have e3 : w2.cell? ⟨w.heap.size, 3, none⟩ = some (.string nm) := (cell_of_row w2 _ 3 _ _ _ he).trans rfl
  have e4 : w2.cell? ⟨w.heap.size, 4, none⟩ = some (.slice ta tk tc) := (cell_of_row w2 _ 4 _ _ _ he).trans rfl
  have e5 : w2.cell? ⟨w.heap.size, 5, none⟩ = some (.int .i32 i) := (cell_of_row w2 _ 5 _ _ _ he).trans rfl
  have e6 : w2.cell? ⟨w.heap.size, 6, none⟩ = some (.string s) := (cell_of_row w2 _ 6 _ _ _ he).trans rfl
  have e7 : w2.cell? ⟨w.heap.size, 7, none⟩ = some (.slice xa k xc) := (cell_of_row w2 _ 7 _ _ _ he).trans rfl
  have z0 : w2.cell? ⟨w.heap.size + 1, 0, none⟩ = some (.int .i64 0) := (cell_of_row w2 _ 0 _ _ _ hz).trans rfl
  have zf0 := frozen_of_row w2 (w.heap.size + 1) 0 _ _ hz
  have z1 : w2.cell? ⟨w.heap.size + 1, 1, none⟩ = some (.int .i64 0) := (cell_of_row w2 _ 1 _ _ _ hz).trans rfl
  have zf1 := frozen_of_row w2 (w.heap.size + 1) 1 _ _ hz
  have z2 : w2.cell? ⟨w.heap.size + 1, 2, none⟩ = some (.int .i64 0) := (cell_of_row w2 _ 2 _ _ _ hz).trans rfl
  have zf2 := frozen_of_row w2 (w.heap.size + 1) 2 _ _ hz
  have z3 : w2.cell? ⟨w.heap.size + 1, 3, none⟩ = some (.string { data := #[] }) := (cell_of_row w2 _ 3 _ _ _ hz).trans rfl
  have zf3 := frozen_of_row w2 (w.heap.size + 1) 3 _ _ hz
  have z4 : w2.cell? ⟨w.heap.size + 1, 4, none⟩ = some (.slice none 0 0) := (cell_of_row w2 _ 4 _ _ _ hz).trans rfl
  have zf4 := frozen_of_row w2 (w.heap.size + 1) 4 _ _ hz
  have z5 : w2.cell? ⟨w.heap.size + 1, 5, none⟩ = some (.int .i32 0) := (cell_of_row w2 _ 5 _ _ _ hz).trans rfl
  have zf5 := frozen_of_row w2 (w.heap.size + 1) 5 _ _ hz
  have z6 : w2.cell? ⟨w.heap.size + 1, 6, none⟩ = some (.string { data := #[] }) := (cell_of_row w2 _ 6 _ _ _ hz).trans rfl
  have zf6 := frozen_of_row w2 (w.heap.size + 1) 6 _ _ hz
  have z7 : w2.cell? ⟨w.heap.size + 1, 7, none⟩ = some (.slice none 0 0) := (cell_of_row w2 _ 7 _ _ _ hz).trans rfl
  have zf7 := frozen_of_row w2 (w.heap.size + 1) 7 _ _ hz
  have HSMw2 := Lib.hid (show ∀ j, j < 8 → (w2.cell? ⟨w.heap.size + 1, j, none⟩).isSome = true from fun j hj => some8 hz j hj)
  have HBw2 := Lib.hid hbw2
  have hzw2 := hbw2.size
  clear he hz hbw2
  go_wp2_with fail
  exact bodyPost_ret (v := .tuple #[.agg #[.int .i64 24, .int .i64 f, .int .i64 n, .string nm, .slice ta tk tc, .int .i32 i, .string s, .slice xa k xc], .int .i64 (0)]) (by simp [results, Try.results13, go_sem, HSMw2.out 0, HSMw2.out 1, HSMw2.out 2, HSMw2.out 3, HSMw2.out 4, HSMw2.out 5, HSMw2.out 6, HSMw2.out 7]; try rfl) rfl ⟨rfl, below_set8n (HB01.out.trans (HBw2.out.mono (by rw [HS1.out]; omega))) (by omega) _ _ _ _ _ _ _ _⟩

set_option maxHeartbeats 6400000 in
theorem fexpr_set1 (w : World) (f n i : Int) (nm s : ByteArray) (tk tc k xc : Nat) (ta xa : Option Addr) (x : Nat → Ex) (hx : ExsAt w xa k x) (h1 : k ≤ xc) (h2 : xc ≤ 9223372036854775807) (ha : elems k x = true) (ht : setB x k = true) : Calls Try.prog 13 #[.agg #[.int .i64 24, .int .i64 f, .int .i64 n, .string nm, .slice ta tk tc, .int .i32 i, .string s, .slice xa k xc]] w fun en w' => en = .returned (.tuple #[.agg #[.int .i64 0, .int .i64 f, .int .i64 0, .string ByteArray.empty, .slice none 0 0, .int .i32 (setV x k), .string ByteArray.empty, .slice none 0 0], .int .i64 (0)]) ∧ Below w.heap.size w w' := by
  obtain ⟨w1, hw1⟩ : ∃ w1 : World, w1 = (w.alloc (.cells #[.int .i64 24, .int .i64 f, .int .i64 n, .string nm, .slice ta tk tc, .int .i32 i, .string s, .slice xa k xc] 27)).alloc (.cells #[.int .i64 0, .int .i64 0, .int .i64 0, .string { data := #[] }, .slice none 0 0, .int .i32 0, .string { data := #[] }, .slice none 0 0] 27) := ⟨_, rfl⟩
  have hs1 : w1.heap.size = w.heap.size + 2 := by rw [hw1]; simp
  have HE := Lib.hid (show w1.heap[w.heap.size]? = some (.cells #[.int .i64 24, .int .i64 f, .int .i64 n, .string nm, .slice ta tk tc, .int .i32 i, .string s, .slice xa k xc] 27 (0, 0)) from by rw [hw1]; exact heap_alloc2_old w _ _)
  have HZ := Lib.hid (show w1.heap[w.heap.size + 1]? = some (.cells #[.int .i64 0, .int .i64 0, .int .i64 0, .string { data := #[] }, .slice none 0 0, .int .i32 0, .string { data := #[] }, .slice none 0 0] 27 (0, 0)) from by rw [hw1]; exact heap_alloc2_new w _ _)
  have hb01 : Below w.heap.size w w1 := by rw [hw1]; exact ((Below.refl _ _).alloc (Nat.le_refl _) _).alloc (by simp) _
  have HB01 := Lib.hid hb01
  have HX := Lib.hid (hx.below hb01 (Nat.le_refl _))
  have HW1 := Lib.hid hw1
  have HS1 := Lib.hid hs1
  obtain ⟨v, hv⟩ : ∃ v, v = setV x k := ⟨_, rfl⟩
  rw [← hv]
  have HV := Lib.hid hv
  have HA := Lib.hid ha
  have HT := Lib.hid ht
  clear hb01 hw1 hs1 hx ha ht hv
  go_enter Try.func13, Try.ntmps13
  go_wp2_with (go_at_call 22; refine (count_none _ _ (by omega)).mono ?_; rintro en w2 ⟨rfl, rfl⟩)
  rw [← HW1.out]
  refine (elements_prog w1 xa k xc x HX.out h1 h2).mono ?_
  rintro en w2 ⟨rfl, hbn⟩
  have hbw2 : Below w1.heap.size w1 w2 := hbn
  clear hbn
  rw [HA.out]
  have he := HE.out
  rw [← hbw2.block _ (by rw [HS1.out]; omega)] at he
  have hz := HZ.out
  rw [← hbw2.block _ (by rw [HS1.out]; omega)] at hz
  have e0 : w2.cell? ⟨w.heap.size, 0, none⟩ = some (.int .i64 24) := (cell_of_row w2 _ 0 _ _ _ he).trans rfl
  have e1 : w2.cell? ⟨w.heap.size, 1, none⟩ = some (.int .i64 f) := (cell_of_row w2 _ 1 _ _ _ he).trans rfl
  have e2 : w2.cell? ⟨w.heap.size, 2, none⟩ = some (.int .i64 n) := (cell_of_row w2 _ 2 _ _ _ he).trans rfl
  have e3 : w2.cell? ⟨w.heap.size, 3, none⟩ = some (.string nm) := (cell_of_row w2 _ 3 _ _ _ he).trans rfl
  have e4 : w2.cell? ⟨w.heap.size, 4, none⟩ = some (.slice ta tk tc) := (cell_of_row w2 _ 4 _ _ _ he).trans rfl
  have e5 : w2.cell? ⟨w.heap.size, 5, none⟩ = some (.int .i32 i) := (cell_of_row w2 _ 5 _ _ _ he).trans rfl
  have e6 : w2.cell? ⟨w.heap.size, 6, none⟩ = some (.string s) := (cell_of_row w2 _ 6 _ _ _ he).trans rfl
  have e7 : w2.cell? ⟨w.heap.size, 7, none⟩ = some (.slice xa k xc) := (cell_of_row w2 _ 7 _ _ _ he).trans rfl
  have z0 : w2.cell? ⟨w.heap.size + 1, 0, none⟩ = some (.int .i64 0) := (cell_of_row w2 _ 0 _ _ _ hz).trans rfl
  have zf0 := frozen_of_row w2 (w.heap.size + 1) 0 _ _ hz
  have z1 : w2.cell? ⟨w.heap.size + 1, 1, none⟩ = some (.int .i64 0) := (cell_of_row w2 _ 1 _ _ _ hz).trans rfl
  have zf1 := frozen_of_row w2 (w.heap.size + 1) 1 _ _ hz
  have z2 : w2.cell? ⟨w.heap.size + 1, 2, none⟩ = some (.int .i64 0) := (cell_of_row w2 _ 2 _ _ _ hz).trans rfl
  have zf2 := frozen_of_row w2 (w.heap.size + 1) 2 _ _ hz
  have z3 : w2.cell? ⟨w.heap.size + 1, 3, none⟩ = some (.string { data := #[] }) := (cell_of_row w2 _ 3 _ _ _ hz).trans rfl
  have zf3 := frozen_of_row w2 (w.heap.size + 1) 3 _ _ hz
  have z4 : w2.cell? ⟨w.heap.size + 1, 4, none⟩ = some (.slice none 0 0) := (cell_of_row w2 _ 4 _ _ _ hz).trans rfl
  have zf4 := frozen_of_row w2 (w.heap.size + 1) 4 _ _ hz
  have z5 : w2.cell? ⟨w.heap.size + 1, 5, none⟩ = some (.int .i32 0) := (cell_of_row w2 _ 5 _ _ _ hz).trans rfl
  have zf5 := frozen_of_row w2 (w.heap.size + 1) 5 _ _ hz
  have z6 : w2.cell? ⟨w.heap.size + 1, 6, none⟩ = some (.string { data := #[] }) := (cell_of_row w2 _ 6 _ _ _ hz).trans rfl
  have zf6 := frozen_of_row w2 (w.heap.size + 1) 6 _ _ hz
  have z7 : w2.cell? ⟨w.heap.size + 1, 7, none⟩ = some (.slice none 0 0) := (cell_of_row w2 _ 7 _ _ _ hz).trans rfl
  have zf7 := frozen_of_row w2 (w.heap.size + 1) 7 _ _ hz
  have HSMw2 := Lib.hid (show ∀ j, j < 8 → (w2.cell? ⟨w.heap.size + 1, j, none⟩).isSome = true from fun j hj => some8 hz j hj)
  have HBw2 := Lib.hid hbw2
  have hzw2 := hbw2.size
  clear he hz hbw2
  go_wp2_with fail
  refine (set_prog w2 xa k xc x (HX.out.below HBw2.out (Nat.le_refl _)) h1 h2 (elems_all HA.out)).mono ?_
  rintro en w3 ⟨rfl, hbn⟩
  have hbw3 : Below w1.heap.size w1 w3 := HBw2.out.trans (hbn.mono HBw2.out.size)
  clear hbn
  rw [HT.out, ← HV.out]
  clear e0 e1 e2 e3 e4 e5 e6 e7
  clear z0 zf0 z1 zf1 z2 zf2 z3 zf3 z4 zf4 z5 zf5 z6 zf6 z7 zf7
  have he := HE.out
  rw [← hbw3.block _ (by rw [HS1.out]; omega)] at he
  have hz := HZ.out
  rw [← hbw3.block _ (by rw [HS1.out]; omega)] at hz
  have e0 : w3.cell? ⟨w.heap.size, 0, none⟩ = some (.int .i64 24) := (cell_of_row w3 _ 0 _ _ _ he).trans rfl
  have e1 : w3.cell? ⟨w.heap.size, 1, none⟩ = some (.int .i64 f) := (cell_of_row w3 _ 1 _ _ _ he).trans rfl
  have e2 : w3.cell? ⟨w.heap.size, 2, none⟩ = some (.int .i64 n) := (cell_of_row w3 _ 2 _ _ _ he).trans rfl
  have e3 : w3.cell? ⟨w.heap.size, 3, none⟩ = some (.string nm) := (cell_of_row w3 _ 3 _ _ _ he).trans rfl
  have e4 : w3.cell? ⟨w.heap.size, 4, none⟩ = some (.slice ta tk tc) := (cell_of_row w3 _ 4 _ _ _ he).trans rfl
  have e5 : w3.cell? ⟨w.heap.size, 5, none⟩ = some (.int .i32 i) := (cell_of_row w3 _ 5 _ _ _ he).trans rfl
  have e6 : w3.cell? ⟨w.heap.size, 6, none⟩ = some (.string s) := (cell_of_row w3 _ 6 _ _ _ he).trans rfl
  have e7 : w3.cell? ⟨w.heap.size, 7, none⟩ = some (.slice xa k xc) := (cell_of_row w3 _ 7 _ _ _ he).trans rfl
  have z0 : w3.cell? ⟨w.heap.size + 1, 0, none⟩ = some (.int .i64 0) := (cell_of_row w3 _ 0 _ _ _ hz).trans rfl
  have zf0 := frozen_of_row w3 (w.heap.size + 1) 0 _ _ hz
  have z1 : w3.cell? ⟨w.heap.size + 1, 1, none⟩ = some (.int .i64 0) := (cell_of_row w3 _ 1 _ _ _ hz).trans rfl
  have zf1 := frozen_of_row w3 (w.heap.size + 1) 1 _ _ hz
  have z2 : w3.cell? ⟨w.heap.size + 1, 2, none⟩ = some (.int .i64 0) := (cell_of_row w3 _ 2 _ _ _ hz).trans rfl
  have zf2 := frozen_of_row w3 (w.heap.size + 1) 2 _ _ hz
  have z3 : w3.cell? ⟨w.heap.size + 1, 3, none⟩ = some (.string { data := #[] }) := (cell_of_row w3 _ 3 _ _ _ hz).trans rfl
  have zf3 := frozen_of_row w3 (w.heap.size + 1) 3 _ _ hz
  have z4 : w3.cell? ⟨w.heap.size + 1, 4, none⟩ = some (.slice none 0 0) := (cell_of_row w3 _ 4 _ _ _ hz).trans rfl
  have zf4 := frozen_of_row w3 (w.heap.size + 1) 4 _ _ hz
  have z5 : w3.cell? ⟨w.heap.size + 1, 5, none⟩ = some (.int .i32 0) := (cell_of_row w3 _ 5 _ _ _ hz).trans rfl
  have zf5 := frozen_of_row w3 (w.heap.size + 1) 5 _ _ hz
  have z6 : w3.cell? ⟨w.heap.size + 1, 6, none⟩ = some (.string { data := #[] }) := (cell_of_row w3 _ 6 _ _ _ hz).trans rfl
  have zf6 := frozen_of_row w3 (w.heap.size + 1) 6 _ _ hz
  have z7 : w3.cell? ⟨w.heap.size + 1, 7, none⟩ = some (.slice none 0 0) := (cell_of_row w3 _ 7 _ _ _ hz).trans rfl
  have zf7 := frozen_of_row w3 (w.heap.size + 1) 7 _ _ hz
  have HSMw3 := Lib.hid (show ∀ j, j < 8 → (w3.cell? ⟨w.heap.size + 1, j, none⟩).isSome = true from fun j hj => some8 hz j hj)
  have HBw3 := Lib.hid hbw3
  have hzw3 := hbw3.size
  clear he hz hbw3
  go_wp2_with fail
  refine (num_prog w3 f _).mono ?_
  rintro en w4 ⟨he, hbn⟩
  obtain rfl : en = .returned (.agg #[.int .i64 0, .int .i64 f, .int .i64 0, .string ByteArray.empty, .slice none 0 0, .int .i32 (v), .string ByteArray.empty, .slice none 0 0]) := he
  have hbw4 : Below w1.heap.size w1 w4 := HBw3.out.trans (hbn.mono HBw3.out.size)
  clear hbn
  clear e0 e1 e2 e3 e4 e5 e6 e7
  clear z0 zf0 z1 zf1 z2 zf2 z3 zf3 z4 zf4 z5 zf5 z6 zf6 z7 zf7
  have he := HE.out
  rw [← hbw4.block _ (by rw [HS1.out]; omega)] at he
  have hz := HZ.out
  rw [← hbw4.block _ (by rw [HS1.out]; omega)] at hz
  have e0 : w4.cell? ⟨w.heap.size, 0, none⟩ = some (.int .i64 24) := (cell_of_row w4 _ 0 _ _ _ he).trans rfl
  have e1 : w4.cell? ⟨w.heap.size, 1, none⟩ = some (.int .i64 f) := (cell_of_row w4 _ 1 _ _ _ he).trans rfl
  have e2 : w4.cell? ⟨w.heap.size, 2, none⟩ = some (.int .i64 n) := (cell_of_row w4 _ 2 _ _ _ he).trans rfl
  have e3 : w4.cell? ⟨w.heap.size, 3, none⟩ = some (.string nm) := (cell_of_row w4 _ 3 _ _ _ he).trans rfl
  have e4 : w4.cell? ⟨w.heap.size, 4, none⟩ = some (.slice ta tk tc) := (cell_of_row w4 _ 4 _ _ _ he).trans rfl
  have e5 : w4.cell? ⟨w.heap.size, 5, none⟩ = some (.int .i32 i) := (cell_of_row w4 _ 5 _ _ _ he).trans rfl
  have e6 : w4.cell? ⟨w.heap.size, 6, none⟩ = some (.string s) := (cell_of_row w4 _ 6 _ _ _ he).trans rfl
  have e7 : w4.cell? ⟨w.heap.size, 7, none⟩ = some (.slice xa k xc) := (cell_of_row w4 _ 7 _ _ _ he).trans rfl
  have z0 : w4.cell? ⟨w.heap.size + 1, 0, none⟩ = some (.int .i64 0) := (cell_of_row w4 _ 0 _ _ _ hz).trans rfl
  have zf0 := frozen_of_row w4 (w.heap.size + 1) 0 _ _ hz
  have z1 : w4.cell? ⟨w.heap.size + 1, 1, none⟩ = some (.int .i64 0) := (cell_of_row w4 _ 1 _ _ _ hz).trans rfl
  have zf1 := frozen_of_row w4 (w.heap.size + 1) 1 _ _ hz
  have z2 : w4.cell? ⟨w.heap.size + 1, 2, none⟩ = some (.int .i64 0) := (cell_of_row w4 _ 2 _ _ _ hz).trans rfl
  have zf2 := frozen_of_row w4 (w.heap.size + 1) 2 _ _ hz
  have z3 : w4.cell? ⟨w.heap.size + 1, 3, none⟩ = some (.string { data := #[] }) := (cell_of_row w4 _ 3 _ _ _ hz).trans rfl
  have zf3 := frozen_of_row w4 (w.heap.size + 1) 3 _ _ hz
  have z4 : w4.cell? ⟨w.heap.size + 1, 4, none⟩ = some (.slice none 0 0) := (cell_of_row w4 _ 4 _ _ _ hz).trans rfl
  have zf4 := frozen_of_row w4 (w.heap.size + 1) 4 _ _ hz
  have z5 : w4.cell? ⟨w.heap.size + 1, 5, none⟩ = some (.int .i32 0) := (cell_of_row w4 _ 5 _ _ _ hz).trans rfl
  have zf5 := frozen_of_row w4 (w.heap.size + 1) 5 _ _ hz
  have z6 : w4.cell? ⟨w.heap.size + 1, 6, none⟩ = some (.string { data := #[] }) := (cell_of_row w4 _ 6 _ _ _ hz).trans rfl
  have zf6 := frozen_of_row w4 (w.heap.size + 1) 6 _ _ hz
  have z7 : w4.cell? ⟨w.heap.size + 1, 7, none⟩ = some (.slice none 0 0) := (cell_of_row w4 _ 7 _ _ _ hz).trans rfl
  have zf7 := frozen_of_row w4 (w.heap.size + 1) 7 _ _ hz
  have HSMw4 := Lib.hid (show ∀ j, j < 8 → (w4.cell? ⟨w.heap.size + 1, j, none⟩).isSome = true from fun j hj => some8 hz j hj)
  have HBw4 := Lib.hid hbw4
  have hzw4 := hbw4.size
  clear he hz hbw4
  go_wp2_with fail
  exact bodyPost_ret (v := .tuple #[.agg #[.int .i64 0, .int .i64 f, .int .i64 0, .string ByteArray.empty, .slice none 0 0, .int .i32 (v), .string ByteArray.empty, .slice none 0 0], .int .i64 (0)]) (by simp [results, Try.results13, go_sem, HSMw4.out 0, HSMw4.out 1, HSMw4.out 2, HSMw4.out 3, HSMw4.out 4, HSMw4.out 5, HSMw4.out 6, HSMw4.out 7]; try rfl) rfl ⟨rfl, below_set8n (HB01.out.trans (HBw4.out.mono (by rw [HS1.out]; omega))) (by omega) _ _ _ _ _ _ _ _⟩

set_option maxHeartbeats 6400000 in
theorem fexpr_set0 (w : World) (f n i : Int) (nm s : ByteArray) (tk tc k xc : Nat) (ta xa : Option Addr) (x : Nat → Ex) (hx : ExsAt w xa k x) (h1 : k ≤ xc) (h2 : xc ≤ 9223372036854775807) (ha : elems k x = true) (ht : setB x k = false) : Calls Try.prog 13 #[.agg #[.int .i64 24, .int .i64 f, .int .i64 n, .string nm, .slice ta tk tc, .int .i32 i, .string s, .slice xa k xc]] w fun en w' => en = .returned (.tuple #[.agg #[.int .i64 0, .int .i64 0, .int .i64 0, .string ByteArray.empty, .slice none 0 0, .int .i32 0, .string ByteArray.empty, .slice none 0 0], .int .i64 (33)]) ∧ Below w.heap.size w w' := by
  obtain ⟨w1, hw1⟩ : ∃ w1 : World, w1 = (w.alloc (.cells #[.int .i64 24, .int .i64 f, .int .i64 n, .string nm, .slice ta tk tc, .int .i32 i, .string s, .slice xa k xc] 27)).alloc (.cells #[.int .i64 0, .int .i64 0, .int .i64 0, .string { data := #[] }, .slice none 0 0, .int .i32 0, .string { data := #[] }, .slice none 0 0] 27) := ⟨_, rfl⟩
  have hs1 : w1.heap.size = w.heap.size + 2 := by rw [hw1]; simp
  have HE := Lib.hid (show w1.heap[w.heap.size]? = some (.cells #[.int .i64 24, .int .i64 f, .int .i64 n, .string nm, .slice ta tk tc, .int .i32 i, .string s, .slice xa k xc] 27 (0, 0)) from by rw [hw1]; exact heap_alloc2_old w _ _)
  have HZ := Lib.hid (show w1.heap[w.heap.size + 1]? = some (.cells #[.int .i64 0, .int .i64 0, .int .i64 0, .string { data := #[] }, .slice none 0 0, .int .i32 0, .string { data := #[] }, .slice none 0 0] 27 (0, 0)) from by rw [hw1]; exact heap_alloc2_new w _ _)
  have hb01 : Below w.heap.size w w1 := by rw [hw1]; exact ((Below.refl _ _).alloc (Nat.le_refl _) _).alloc (by simp) _
  have HB01 := Lib.hid hb01
  have HX := Lib.hid (hx.below hb01 (Nat.le_refl _))
  have HW1 := Lib.hid hw1
  have HS1 := Lib.hid hs1
  obtain ⟨v, hv⟩ : ∃ v, v = setV x k := ⟨_, rfl⟩
  have HV := Lib.hid hv
  have HA := Lib.hid ha
  have HT := Lib.hid ht
  clear hb01 hw1 hs1 hx ha ht hv
  go_enter Try.func13, Try.ntmps13
  go_wp2_with (go_at_call 22; refine (count_none _ _ (by omega)).mono ?_; rintro en w2 ⟨rfl, rfl⟩)
  rw [← HW1.out]
  refine (elements_prog w1 xa k xc x HX.out h1 h2).mono ?_
  rintro en w2 ⟨rfl, hbn⟩
  have hbw2 : Below w1.heap.size w1 w2 := hbn
  clear hbn
  rw [HA.out]
  have he := HE.out
  rw [← hbw2.block _ (by rw [HS1.out]; omega)] at he
  have hz := HZ.out
  rw [← hbw2.block _ (by rw [HS1.out]; omega)] at hz
  have e0 : w2.cell? ⟨w.heap.size, 0, none⟩ = some (.int .i64 24) := (cell_of_row w2 _ 0 _ _ _ he).trans rfl
  have e1 : w2.cell? ⟨w.heap.size, 1, none⟩ = some (.int .i64 f) := (cell_of_row w2 _ 1 _ _ _ he).trans rfl
  have e2 : w2.cell? ⟨w.heap.size, 2, none⟩ = some (.int .i64 n) := (cell_of_row w2 _ 2 _ _ _ he).trans rfl
  have e3 : w2.cell? ⟨w.heap.size, 3, none⟩ = some (.string nm) := (cell_of_row w2 _ 3 _ _ _ he).trans rfl
  have e4 : w2.cell? ⟨w.heap.size, 4, none⟩ = some (.slice ta tk tc) := (cell_of_row w2 _ 4 _ _ _ he).trans rfl
  have e5 : w2.cell? ⟨w.heap.size, 5, none⟩ = some (.int .i32 i) := (cell_of_row w2 _ 5 _ _ _ he).trans rfl
  have e6 : w2.cell? ⟨w.heap.size, 6, none⟩ = some (.string s) := (cell_of_row w2 _ 6 _ _ _ he).trans rfl
  have e7 : w2.cell? ⟨w.heap.size, 7, none⟩ = some (.slice xa k xc) := (cell_of_row w2 _ 7 _ _ _ he).trans rfl
  have z0 : w2.cell? ⟨w.heap.size + 1, 0, none⟩ = some (.int .i64 0) := (cell_of_row w2 _ 0 _ _ _ hz).trans rfl
  have zf0 := frozen_of_row w2 (w.heap.size + 1) 0 _ _ hz
  have z1 : w2.cell? ⟨w.heap.size + 1, 1, none⟩ = some (.int .i64 0) := (cell_of_row w2 _ 1 _ _ _ hz).trans rfl
  have zf1 := frozen_of_row w2 (w.heap.size + 1) 1 _ _ hz
  have z2 : w2.cell? ⟨w.heap.size + 1, 2, none⟩ = some (.int .i64 0) := (cell_of_row w2 _ 2 _ _ _ hz).trans rfl
  have zf2 := frozen_of_row w2 (w.heap.size + 1) 2 _ _ hz
  have z3 : w2.cell? ⟨w.heap.size + 1, 3, none⟩ = some (.string { data := #[] }) := (cell_of_row w2 _ 3 _ _ _ hz).trans rfl
  have zf3 := frozen_of_row w2 (w.heap.size + 1) 3 _ _ hz
  have z4 : w2.cell? ⟨w.heap.size + 1, 4, none⟩ = some (.slice none 0 0) := (cell_of_row w2 _ 4 _ _ _ hz).trans rfl
  have zf4 := frozen_of_row w2 (w.heap.size + 1) 4 _ _ hz
  have z5 : w2.cell? ⟨w.heap.size + 1, 5, none⟩ = some (.int .i32 0) := (cell_of_row w2 _ 5 _ _ _ hz).trans rfl
  have zf5 := frozen_of_row w2 (w.heap.size + 1) 5 _ _ hz
  have z6 : w2.cell? ⟨w.heap.size + 1, 6, none⟩ = some (.string { data := #[] }) := (cell_of_row w2 _ 6 _ _ _ hz).trans rfl
  have zf6 := frozen_of_row w2 (w.heap.size + 1) 6 _ _ hz
  have z7 : w2.cell? ⟨w.heap.size + 1, 7, none⟩ = some (.slice none 0 0) := (cell_of_row w2 _ 7 _ _ _ hz).trans rfl
  have zf7 := frozen_of_row w2 (w.heap.size + 1) 7 _ _ hz
  have HSMw2 := Lib.hid (show ∀ j, j < 8 → (w2.cell? ⟨w.heap.size + 1, j, none⟩).isSome = true from fun j hj => some8 hz j hj)
  have HBw2 := Lib.hid hbw2
  have hzw2 := hbw2.size
  clear he hz hbw2
  go_wp2_with fail
  refine (set_prog w2 xa k xc x (HX.out.below HBw2.out (Nat.le_refl _)) h1 h2 (elems_all HA.out)).mono ?_
  rintro en w3 ⟨rfl, hbn⟩
  have hbw3 : Below w1.heap.size w1 w3 := HBw2.out.trans (hbn.mono HBw2.out.size)
  clear hbn
  rw [HT.out, ← HV.out]
  clear e0 e1 e2 e3 e4 e5 e6 e7
  clear z0 zf0 z1 zf1 z2 zf2 z3 zf3 z4 zf4 z5 zf5 z6 zf6 z7 zf7
  have he := HE.out
  rw [← hbw3.block _ (by rw [HS1.out]; omega)] at he
  have hz := HZ.out
  rw [← hbw3.block _ (by rw [HS1.out]; omega)] at hz
  have e0 : w3.cell? ⟨w.heap.size, 0, none⟩ = some (.int .i64 24) := (cell_of_row w3 _ 0 _ _ _ he).trans rfl
  have e1 : w3.cell? ⟨w.heap.size, 1, none⟩ = some (.int .i64 f) := (cell_of_row w3 _ 1 _ _ _ he).trans rfl
  have e2 : w3.cell? ⟨w.heap.size, 2, none⟩ = some (.int .i64 n) := (cell_of_row w3 _ 2 _ _ _ he).trans rfl
  have e3 : w3.cell? ⟨w.heap.size, 3, none⟩ = some (.string nm) := (cell_of_row w3 _ 3 _ _ _ he).trans rfl
  have e4 : w3.cell? ⟨w.heap.size, 4, none⟩ = some (.slice ta tk tc) := (cell_of_row w3 _ 4 _ _ _ he).trans rfl
  have e5 : w3.cell? ⟨w.heap.size, 5, none⟩ = some (.int .i32 i) := (cell_of_row w3 _ 5 _ _ _ he).trans rfl
  have e6 : w3.cell? ⟨w.heap.size, 6, none⟩ = some (.string s) := (cell_of_row w3 _ 6 _ _ _ he).trans rfl
  have e7 : w3.cell? ⟨w.heap.size, 7, none⟩ = some (.slice xa k xc) := (cell_of_row w3 _ 7 _ _ _ he).trans rfl
  have z0 : w3.cell? ⟨w.heap.size + 1, 0, none⟩ = some (.int .i64 0) := (cell_of_row w3 _ 0 _ _ _ hz).trans rfl
  have zf0 := frozen_of_row w3 (w.heap.size + 1) 0 _ _ hz
  have z1 : w3.cell? ⟨w.heap.size + 1, 1, none⟩ = some (.int .i64 0) := (cell_of_row w3 _ 1 _ _ _ hz).trans rfl
  have zf1 := frozen_of_row w3 (w.heap.size + 1) 1 _ _ hz
  have z2 : w3.cell? ⟨w.heap.size + 1, 2, none⟩ = some (.int .i64 0) := (cell_of_row w3 _ 2 _ _ _ hz).trans rfl
  have zf2 := frozen_of_row w3 (w.heap.size + 1) 2 _ _ hz
  have z3 : w3.cell? ⟨w.heap.size + 1, 3, none⟩ = some (.string { data := #[] }) := (cell_of_row w3 _ 3 _ _ _ hz).trans rfl
  have zf3 := frozen_of_row w3 (w.heap.size + 1) 3 _ _ hz
  have z4 : w3.cell? ⟨w.heap.size + 1, 4, none⟩ = some (.slice none 0 0) := (cell_of_row w3 _ 4 _ _ _ hz).trans rfl
  have zf4 := frozen_of_row w3 (w.heap.size + 1) 4 _ _ hz
  have z5 : w3.cell? ⟨w.heap.size + 1, 5, none⟩ = some (.int .i32 0) := (cell_of_row w3 _ 5 _ _ _ hz).trans rfl
  have zf5 := frozen_of_row w3 (w.heap.size + 1) 5 _ _ hz
  have z6 : w3.cell? ⟨w.heap.size + 1, 6, none⟩ = some (.string { data := #[] }) := (cell_of_row w3 _ 6 _ _ _ hz).trans rfl
  have zf6 := frozen_of_row w3 (w.heap.size + 1) 6 _ _ hz
  have z7 : w3.cell? ⟨w.heap.size + 1, 7, none⟩ = some (.slice none 0 0) := (cell_of_row w3 _ 7 _ _ _ hz).trans rfl
  have zf7 := frozen_of_row w3 (w.heap.size + 1) 7 _ _ hz
  have HSMw3 := Lib.hid (show ∀ j, j < 8 → (w3.cell? ⟨w.heap.size + 1, j, none⟩).isSome = true from fun j hj => some8 hz j hj)
  have HBw3 := Lib.hid hbw3
  have hzw3 := hbw3.size
  clear he hz hbw3
  go_wp2_with fail
  exact bodyPost_ret (v := .tuple #[.agg #[.int .i64 0, .int .i64 0, .int .i64 0, .string ByteArray.empty, .slice none 0 0, .int .i32 0, .string ByteArray.empty, .slice none 0 0], .int .i64 (33)]) (by simp [results, Try.results13, go_sem, HSMw3.out 0, HSMw3.out 1, HSMw3.out 2, HSMw3.out 3, HSMw3.out 4, HSMw3.out 5, HSMw3.out 6, HSMw3.out 7]; try rfl) rfl ⟨rfl, below_set8n (HB01.out.trans (HBw3.out.mono (by rw [HS1.out]; omega))) (by omega) _ _ _ _ _ _ _ _⟩
end Go.Proofs.Ytiikeilpgajmfaa
