/- Fold: an expression is the same as itself, wherever both lie. (Printed by gen_fd13.py.) -/
import Derived.Test.YtiikeilpgajmfaaFd12
namespace Go.Proofs.Ytiikeilpgajmfaa
open Go.RowKit Go.Waf
set_option maxRecDepth 100000
set_option linter.unusedVariables false
set_option linter.unusedSimpArgs false

def AlikeSelf (t : Ty) : Prop := ∀ (w : World) (v1 v2 : Value), TyOk w t v1 → TyOk w t v2 → Calls Try.prog 20 #[tyV t v1, tyV t v2] w fun en w' => en = .returned (.bool true) ∧ Below w.heap.size w w'
set_option maxHeartbeats 3200000 in
theorem alike_self : ∀ t, AlikeSelf t := by
  intro t
  induction t with
  | none => intro w v1 v2 h1; exact h1.elim
  | mk f n s k of ih =>
  intro w v1 v2 ok1 ok2
  obtain ⟨a1, c1, rfl, l1, m1, g1⟩ := ok1
  obtain ⟨a2, c2, rfl, l2, m2, g2⟩ := ok2
  show Calls _ _ #[.agg #[.int .i64 f, .int .i64 n, .string s, .slice a1 k c1], .agg #[.int .i64 f, .int .i64 n, .string s, .slice a2 k c2]] w _
  obtain ⟨w1, hw1⟩ : ∃ w1 : World, w1 = (w.alloc (.cells #[.int .i64 f, .int .i64 n, .string s, .slice a1 k c1] 24)).alloc (.cells #[.int .i64 f, .int .i64 n, .string s, .slice a2 k c2] 24) := ⟨_, rfl⟩
  have hs1 : w1.heap.size = w.heap.size + 2 := by rw [hw1]; simp
  have hb01 : Below w.heap.size w w1 := by rw [hw1]; exact ((Below.refl _ _).alloc (Nat.le_refl _) _).alloc (by simp) _
  have HE := Lib.hid (show w1.heap[w.heap.size]? = some (.cells #[.int .i64 f, .int .i64 n, .string s, .slice a1 k c1] 24 (0, 0)) from by rw [hw1]; exact heap_alloc2_old w _ _)
  have HZ := Lib.hid (show w1.heap[w.heap.size + 1]? = some (.cells #[.int .i64 f, .int .i64 n, .string s, .slice a2 k c2] 24 (0, 0)) from by rw [hw1]; exact heap_alloc2_new w _ _)
  have HE3 := Lib.hid ((cell_of_row w1 _ 3 _ _ _ HE.out).trans (rfl : _ = some (Value.slice a1 k c1)))
  have HZ3 := Lib.hid ((cell_of_row w1 _ 3 _ _ _ HZ.out).trans (rfl : _ = some (Value.slice a2 k c2)))
  have HB01 := Lib.hid hb01
  have HW1 := Lib.hid hw1
  have HS1 := Lib.hid hs1
  have HG1 := Lib.hid g1
  have HG2 := Lib.hid g2
  have HI := Lib.hid ih
  clear g1 g2 ih hw1 hs1 hb01
  go_enter Try.func20, Try.ntmps20
  go_wp2_with fail
  rw [← HW1.out]
  go_loopw [5] (fun z wr => ∃ j : Nat, j ≤ k ∧ z = .int .i64 (j : Int) ∧ Below w1.heap.size w1 wr) (fun z _ => k - (intOf z).toNat)
  case atStart => exact ⟨0, by omega, rfl, Below.refl _ _⟩
  case round =>
    obtain ⟨j, hj, rfl, hb⟩ := hrel
    obtain ⟨wo, rfl⟩ : ∃ wo : World, wo = wr := ⟨_, rfl⟩
    have c3 : wo.cell? ⟨w.heap.size, 3, none⟩ = some (.slice a1 k c1) := cell_below hb (Nat.le_refl _) HE3.out
    by_cases hlt : j < k
    · obtain ⟨b1, o1, rfl, hc1⟩ := HG1.out (by omega)
      obtain ⟨b2, o2, rfl, hc2⟩ := HG2.out (by omega)
      obtain ⟨u1, hu1, p0, p1, p2, p3⟩ := hc1 j hlt
      obtain ⟨u2, hu2, q0, q1, q2, q3⟩ := hc2 j hlt
      obtain ⟨wd, hwd⟩ : ∃ wd : World, wd = wo.drew := ⟨_, rfl⟩
      have hbd : Below w1.heap.size w1 wd := by rw [hwd]; exact below_drewN hb 1
      have hb0 : Below w.heap.size w wd := HB01.out.trans (hbd.mono (by rw [HS1.out]; omega))
      have HIH := Lib.hid (HI.out j wd u1 u2 (TyOk.below hb0 (Nat.le_refl _) _ _ hu1) (TyOk.below hb0 (Nat.le_refl _) _ _ hu2))
      obtain ⟨E, hE⟩ : ∃ E, E = of j := ⟨_, rfl⟩
      rw [← hE] at HIH p0 p1 p2 q0 q1 q2
      unfold tyV at HIH
      have cb := fun {p : Addr} {u : Value} (h : w.cell? p = some u) => cell_below hb0 (Nat.le_refl _) h
      have HS := Lib.hid (show (fun W : World => W.cell? ⟨w.heap.size, 3, none⟩ = some (.slice (some ⟨b1, o1, none⟩) k c1) ∧ W.cell? ⟨w.heap.size + 1, 3, none⟩ = some (.slice (some ⟨b2, o2, none⟩) k c2) ∧ (W.cell? ⟨b1, o1 + j * 4, none⟩ = some (.int .i64 E.form) ∧ W.cell? ⟨b1, o1 + j * 4 + 1, none⟩ = some (.int .i64 E.num) ∧ W.cell? ⟨b1, o1 + j * 4 + 2, none⟩ = some (.string E.name) ∧ W.cell? ⟨b1, o1 + j * 4 + 3, none⟩ = some u1) ∧ W.cell? ⟨b2, o2 + j * 4, none⟩ = some (.int .i64 E.form) ∧ W.cell? ⟨b2, o2 + j * 4 + 1, none⟩ = some (.int .i64 E.num) ∧ W.cell? ⟨b2, o2 + j * 4 + 2, none⟩ = some (.string E.name) ∧ W.cell? ⟨b2, o2 + j * 4 + 3, none⟩ = some u2) wd from ⟨cell_below hbd (Nat.le_refl _) HE3.out, cell_below hbd (Nat.le_refl _) HZ3.out, ⟨cb p0, cb p1, cb p2, cb p3⟩, cb q0, cb q1, cb q2, cb q3⟩)
      have HBD := Lib.hid hbd
      have HWD := Lib.hid hwd
      have jk : (j : Int) < (k : Int) := by omega
      have j0 : (0 : Int) ≤ (j : Int) := by omega
      clear hc1 hc2 hu1 hu2 p0 p1 p2 p3 q0 q1 q2 q3 hE hb hbd hb0 hwd cb
      go_wp2_with fail
      refine wp_region_till 10 (fun W : World => W.cell? ⟨w.heap.size, 3, none⟩ = some (.slice (some ⟨b1, o1, none⟩) k c1) ∧ W.cell? ⟨w.heap.size + 1, 3, none⟩ = some (.slice (some ⟨b2, o2, none⟩) k c2) ∧ (W.cell? ⟨b1, o1 + j * 4, none⟩ = some (.int .i64 E.form) ∧ W.cell? ⟨b1, o1 + j * 4 + 1, none⟩ = some (.int .i64 E.num) ∧ W.cell? ⟨b1, o1 + j * 4 + 2, none⟩ = some (.string E.name) ∧ W.cell? ⟨b1, o1 + j * 4 + 3, none⟩ = some u1) ∧ W.cell? ⟨b2, o2 + j * 4, none⟩ = some (.int .i64 E.form) ∧ W.cell? ⟨b2, o2 + j * 4 + 1, none⟩ = some (.int .i64 E.num) ∧ W.cell? ⟨b2, o2 + j * 4 + 2, none⟩ = some (.string E.name) ∧ W.cell? ⟨b2, o2 + j * 4 + 3, none⟩ = some u2) (by as_aux_lemma => kernel_rfl) ?_
      rw [← HWD.out]
      (refine wpAnyT_take (i := 0) (oi := ?_) (v := ?_) ?_ (by as_aux_lemma => kernel_rfl) (by as_aux_lemma => kernel_rfl) (by as_aux_lemma => kernel_rfl) (by as_aux_lemma => kernel_rfl) ?_ (Or.inl ⟨?_, ?_⟩) HS.out ?_; rotate_left 2; (focus (simp only [List.getElem?_toArray, List.getElem?_cons_succ, List.getElem?_cons_zero] <;> rfl)); (focus exact (fun _ _ _ h => h)); (focus rfl); (focus (intro w hSw; (try dsimp only at hSw); go_simp; try (with_reducible rfl))))
      (try simp only [Act.put, List.setIfInBounds_toArray, List.set_cons_zero, List.set_cons_succ])
      (refine wpAnyT_take (i := 1) (oi := ?_) (v := ?_) ?_ (by as_aux_lemma => kernel_rfl) (by as_aux_lemma => kernel_rfl) (by as_aux_lemma => kernel_rfl) (by as_aux_lemma => kernel_rfl) ?_ (Or.inl ⟨?_, ?_⟩) HS.out ?_; rotate_left 2; (focus (simp only [List.getElem?_toArray, List.getElem?_cons_succ, List.getElem?_cons_zero] <;> rfl)); (focus exact (fun _ _ _ h => h)); (focus rfl); (focus (intro w hSw; (try dsimp only at hSw); go_simp; try (with_reducible rfl))))
      (try simp only [Act.put, List.setIfInBounds_toArray, List.set_cons_zero, List.set_cons_succ])
      (refine wpAnyT_take (i := 2) (oi := ?_) (v := ?_) ?_ (by as_aux_lemma => kernel_rfl) (by as_aux_lemma => kernel_rfl) (by as_aux_lemma => kernel_rfl) (by as_aux_lemma => kernel_rfl) ?_ (Or.inl ⟨?_, ?_⟩) HS.out ?_; rotate_left 2; (focus (simp only [List.getElem?_toArray, List.getElem?_cons_succ, List.getElem?_cons_zero] <;> rfl)); (focus exact (fun _ _ _ h => h)); (focus rfl); (focus (intro w hSw; (try dsimp only at hSw); go_simp; try (with_reducible rfl))))
      (try simp only [Act.put, List.setIfInBounds_toArray, List.set_cons_zero, List.set_cons_succ])
      (refine wpAnyT_take (i := 3) (oi := ?_) (v := ?_) ?_ (by as_aux_lemma => kernel_rfl) (by as_aux_lemma => kernel_rfl) (by as_aux_lemma => kernel_rfl) (by as_aux_lemma => kernel_rfl) ?_ (Or.inl ⟨?_, ?_⟩) HS.out ?_; rotate_left 2; (focus (simp only [List.getElem?_toArray, List.getElem?_cons_succ, List.getElem?_cons_zero] <;> rfl)); (focus exact (fun _ _ _ h => h)); (focus rfl); (focus (intro w hSw; (try dsimp only at hSw); go_simp; try (with_reducible rfl))))
      (try simp only [Act.put, List.setIfInBounds_toArray, List.set_cons_zero, List.set_cons_succ])
      (refine wpAnyT_take (i := 4) (oi := ?_) (v := ?_) ?_ (by as_aux_lemma => kernel_rfl) (by as_aux_lemma => kernel_rfl) (by as_aux_lemma => kernel_rfl) (by as_aux_lemma => kernel_rfl) ?_ (Or.inl ⟨?_, ?_⟩) HS.out ?_; rotate_left 2; (focus (simp only [List.getElem?_toArray, List.getElem?_cons_succ, List.getElem?_cons_zero] <;> rfl)); (focus exact (fun _ _ _ h => h)); (focus rfl); (focus (intro w hSw; (try dsimp only at hSw); go_simp; try (with_reducible rfl))))
      (try simp only [Act.put, List.setIfInBounds_toArray, List.set_cons_zero, List.set_cons_succ])
      (refine wpAnyT_take (i := 5) (oi := ?_) (v := ?_) ?_ (by as_aux_lemma => kernel_rfl) (by as_aux_lemma => kernel_rfl) (by as_aux_lemma => kernel_rfl) (by as_aux_lemma => kernel_rfl) ?_ (Or.inl ⟨?_, ?_⟩) HS.out ?_; rotate_left 2; (focus (simp only [List.getElem?_toArray, List.getElem?_cons_succ, List.getElem?_cons_zero] <;> rfl)); (focus exact (fun _ _ _ h => h)); (focus rfl); (focus (intro w hSw; (try dsimp only at hSw); go_simp; try (with_reducible rfl))))
      (try simp only [Act.put, List.setIfInBounds_toArray, List.set_cons_zero, List.set_cons_succ])
      (refine wpAnyT_take (i := 6) (oi := ?_) (v := ?_) ?_ (by as_aux_lemma => kernel_rfl) (by as_aux_lemma => kernel_rfl) (by as_aux_lemma => kernel_rfl) (by as_aux_lemma => kernel_rfl) ?_ (Or.inl ⟨?_, ?_⟩) HS.out ?_; rotate_left 2; (focus (simp only [List.getElem?_toArray, List.getElem?_cons_succ, List.getElem?_cons_zero] <;> rfl)); (focus exact (fun _ _ _ h => h)); (focus rfl); (focus (intro w hSw; (try dsimp only at hSw); go_simp; try (with_reducible rfl))))
      (try simp only [Act.put, List.setIfInBounds_toArray, List.set_cons_zero, List.set_cons_succ])
      (refine wpAnyT_take (i := 7) (oi := ?_) (v := ?_) ?_ (by as_aux_lemma => kernel_rfl) (by as_aux_lemma => kernel_rfl) (by as_aux_lemma => kernel_rfl) (by as_aux_lemma => kernel_rfl) ?_ (Or.inl ⟨?_, ?_⟩) HS.out ?_; rotate_left 2; (focus (simp only [List.getElem?_toArray, List.getElem?_cons_succ, List.getElem?_cons_zero] <;> rfl)); (focus exact (fun _ _ _ h => h)); (focus rfl); (focus (intro w hSw; (try dsimp only at hSw); go_simp; try (with_reducible rfl))))
      (try simp only [Act.put, List.setIfInBounds_toArray, List.set_cons_zero, List.set_cons_succ])
      (refine wpAnyT_take (i := 8) (oi := ?_) (v := ?_) ?_ (by as_aux_lemma => kernel_rfl) (by as_aux_lemma => kernel_rfl) (by as_aux_lemma => kernel_rfl) (by as_aux_lemma => kernel_rfl) ?_ (Or.inl ⟨?_, ?_⟩) HS.out ?_; rotate_left 2; (focus (simp only [List.getElem?_toArray, List.getElem?_cons_succ, List.getElem?_cons_zero] <;> rfl)); (focus exact (fun _ _ _ h => h)); (focus rfl); (focus (intro w hSw; (try dsimp only at hSw); go_simp; try (with_reducible rfl))))
      (try simp only [Act.put, List.setIfInBounds_toArray, List.set_cons_zero, List.set_cons_succ])
      (refine wpAnyT_take (i := 9) (oi := ?_) (v := ?_) ?_ (by as_aux_lemma => kernel_rfl) (by as_aux_lemma => kernel_rfl) (by as_aux_lemma => kernel_rfl) (by as_aux_lemma => kernel_rfl) ?_ (Or.inl ⟨?_, ?_⟩) HS.out ?_; rotate_left 2; (focus (simp only [List.getElem?_toArray, List.getElem?_cons_succ, List.getElem?_cons_zero] <;> rfl)); (focus exact (fun _ _ _ h => h)); (focus rfl); (focus (intro w hSw; (try dsimp only at hSw); go_simp; try (with_reducible rfl))))
      (try simp only [Act.put, List.setIfInBounds_toArray, List.set_cons_zero, List.set_cons_succ])
      (refine wpAnyT_late (i := 10) (oi := ?_) ?_ (by as_aux_lemma => kernel_rfl) (by as_aux_lemma => kernel_rfl) (fun K hK => ?_); rotate_left; (focus (simp only [List.getElem?_toArray, List.getElem?_cons_succ, List.getElem?_cons_zero] <;> rfl)))
      go_simp
      refine HIH.out.mono ?_
      rintro en w4 ⟨rfl, hbn⟩
      have HB4 := Lib.hid (HBD.out.trans (hbn.mono HBD.out.size))
      clear hbn
      refine hK.out _ _ ?_
      clear hK K
      (try simp only [Act.put, List.setIfInBounds_toArray, List.set_cons_zero, List.set_cons_succ])
      (refine wpAnyT_late (i := 11) (oi := ?_) ?_ (by as_aux_lemma => kernel_rfl) (by as_aux_lemma => kernel_rfl) (fun K hK => ?_); rotate_left; (focus (simp only [List.getElem?_toArray, List.getElem?_cons_succ, List.getElem?_cons_zero] <;> rfl)))
      go_simp
      refine hK.out _ _ ?_
      clear hK K
      refine wpAnyT_done (by as_aux_lemma => kernel_rfl) ?_ _
      go_wp2_with fail
      go_roundw
      case rel => exact ⟨j + 1, by omega, by go_num, HB4.out⟩
      case measure => simp [intOf]; omega
    · obtain rfl : j = k := by omega
      have HB := Lib.hid (HB01.out.trans (hb.mono (by rw [HS1.out]; omega)))
      clear hb
      go_wp2_with fail
      go_ret
      exact ⟨rfl, HB.out⟩
def SameSelf (e : Ex) : Prop := ∀ (w : World) (t1 x1 t2 x2 : Value), ExOk w e t1 x1 → ExOk w e t2 x2 → Calls Try.prog 11 #[exV e t1 x1, exV e t2 x2] w fun en w' => en = .returned (.bool true) ∧ Below w.heap.size w w'
set_option maxHeartbeats 3200000 in
theorem sames_self (k : Nat) (x : Nat → Ex) (ih : ∀ j, SameSelf (x j)) (w : World) (a1 a2 : Option Addr) (c1 c2 : Nat) (g1 : ExsAt w a1 k x) (g2 : ExsAt w a2 k x) (l1 : k ≤ c1) (m1 : c1 ≤ 9223372036854775807) (l2 : k ≤ c2) (m2 : c2 ≤ 9223372036854775807) :
    Calls Try.prog 21 #[.slice a1 k c1, .slice a2 k c2] w fun en w' => en = .returned (.bool true) ∧ Below w.heap.size w w' := by
  have HG1 := Lib.hid g1
  have HG2 := Lib.hid g2
  have HI := Lib.hid ih
  clear g1 g2 ih
  go_enter Try.func21, Try.ntmps21
  go_wp2_with fail
  go_loopw [5] (fun z wr => ∃ j : Nat, j ≤ k ∧ z = .int .i64 (j : Int) ∧ Below w.heap.size w wr) (fun z _ => k - (intOf z).toNat)
  case atStart => exact ⟨0, by omega, rfl, Below.refl _ _⟩
  case round =>
    obtain ⟨j, hj, rfl, hb⟩ := hrel
    obtain ⟨wo, rfl⟩ : ∃ wo : World, wo = wr := ⟨_, rfl⟩
    by_cases hlt : j < k
    · obtain ⟨b1, o1, rfl, hc1⟩ := HG1.out (by omega)
      obtain ⟨b2, o2, rfl, hc2⟩ := HG2.out (by omega)
      obtain ⟨u1, y1, hu1, p⟩ := hc1 j hlt
      obtain ⟨u2, y2, hu2, q⟩ := hc2 j hlt
      obtain ⟨wd, hwd⟩ : ∃ wd : World, wd = wo.drew := ⟨_, rfl⟩
      have hbd : Below w.heap.size w wd := by rw [hwd]; exact below_drewN hb 1
      have HIH := Lib.hid (HI.out j wd u1 y1 u2 y2 (ExOk.below hbd (Nat.le_refl _) _ _ _ hu1) (ExOk.below hbd (Nat.le_refl _) _ _ _ hu2))
      obtain ⟨p0, p1, p2, p3, p4, p5, p6, p7⟩ := p.below hbd (Nat.le_refl _)
      obtain ⟨q0, q1, q2, q3, q4, q5, q6, q7⟩ := q.below hbd (Nat.le_refl _)
      obtain ⟨E, hE⟩ : ∃ E, E = x j := ⟨_, rfl⟩
      rw [← hE] at HIH p0 p1 p2 p3 p5 p6 q0 q1 q2 q3 q5 q6
      unfold exV at HIH
      have HS := Lib.hid (show (fun W : World => (W.cell? ⟨b1, o1 + j * 8, none⟩ = some (.int .i64 E.op) ∧ W.cell? ⟨b1, o1 + j * 8 + 1, none⟩ = some (.int .i64 E.t.form) ∧ W.cell? ⟨b1, o1 + j * 8 + 2, none⟩ = some (.int .i64 E.t.num) ∧ W.cell? ⟨b1, o1 + j * 8 + 3, none⟩ = some (.string E.t.name) ∧ W.cell? ⟨b1, o1 + j * 8 + 4, none⟩ = some (u1) ∧ W.cell? ⟨b1, o1 + j * 8 + 5, none⟩ = some (.int .i32 E.i) ∧ W.cell? ⟨b1, o1 + j * 8 + 6, none⟩ = some (.string E.s) ∧ W.cell? ⟨b1, o1 + j * 8 + 7, none⟩ = some (y1)) ∧ W.cell? ⟨b2, o2 + j * 8, none⟩ = some (.int .i64 E.op) ∧ W.cell? ⟨b2, o2 + j * 8 + 1, none⟩ = some (.int .i64 E.t.form) ∧ W.cell? ⟨b2, o2 + j * 8 + 2, none⟩ = some (.int .i64 E.t.num) ∧ W.cell? ⟨b2, o2 + j * 8 + 3, none⟩ = some (.string E.t.name) ∧ W.cell? ⟨b2, o2 + j * 8 + 4, none⟩ = some (u2) ∧ W.cell? ⟨b2, o2 + j * 8 + 5, none⟩ = some (.int .i32 E.i) ∧ W.cell? ⟨b2, o2 + j * 8 + 6, none⟩ = some (.string E.s) ∧ W.cell? ⟨b2, o2 + j * 8 + 7, none⟩ = some (y2)) wd from ⟨⟨p0, p1, p2, p3, p4, p5, p6, p7⟩, q0, q1, q2, q3, q4, q5, q6, q7⟩)
      have HBD := Lib.hid hbd
      have HWD := Lib.hid hwd
      have jk : (j : Int) < (k : Int) := by omega
      have j0 : (0 : Int) ≤ (j : Int) := by omega
      clear hc1 hc2 hu1 hu2 p q p0 p1 p2 p3 p4 p5 p6 p7 q0 q1 q2 q3 q4 q5 q6 q7 hE hb hbd hwd
      go_wp2_with fail
      refine wp_region_till 8 (fun W : World => (W.cell? ⟨b1, o1 + j * 8, none⟩ = some (.int .i64 E.op) ∧ W.cell? ⟨b1, o1 + j * 8 + 1, none⟩ = some (.int .i64 E.t.form) ∧ W.cell? ⟨b1, o1 + j * 8 + 2, none⟩ = some (.int .i64 E.t.num) ∧ W.cell? ⟨b1, o1 + j * 8 + 3, none⟩ = some (.string E.t.name) ∧ W.cell? ⟨b1, o1 + j * 8 + 4, none⟩ = some (u1) ∧ W.cell? ⟨b1, o1 + j * 8 + 5, none⟩ = some (.int .i32 E.i) ∧ W.cell? ⟨b1, o1 + j * 8 + 6, none⟩ = some (.string E.s) ∧ W.cell? ⟨b1, o1 + j * 8 + 7, none⟩ = some (y1)) ∧ W.cell? ⟨b2, o2 + j * 8, none⟩ = some (.int .i64 E.op) ∧ W.cell? ⟨b2, o2 + j * 8 + 1, none⟩ = some (.int .i64 E.t.form) ∧ W.cell? ⟨b2, o2 + j * 8 + 2, none⟩ = some (.int .i64 E.t.num) ∧ W.cell? ⟨b2, o2 + j * 8 + 3, none⟩ = some (.string E.t.name) ∧ W.cell? ⟨b2, o2 + j * 8 + 4, none⟩ = some (u2) ∧ W.cell? ⟨b2, o2 + j * 8 + 5, none⟩ = some (.int .i32 E.i) ∧ W.cell? ⟨b2, o2 + j * 8 + 6, none⟩ = some (.string E.s) ∧ W.cell? ⟨b2, o2 + j * 8 + 7, none⟩ = some (y2)) (by as_aux_lemma => kernel_rfl) ?_
      rw [← HWD.out]
      (refine wpAnyT_take (i := 0) (oi := ?_) (v := ?_) ?_ (by as_aux_lemma => kernel_rfl) (by as_aux_lemma => kernel_rfl) (by as_aux_lemma => kernel_rfl) (by as_aux_lemma => kernel_rfl) ?_ (Or.inl ⟨?_, ?_⟩) HS.out ?_; rotate_left 2; (focus (simp only [List.getElem?_toArray, List.getElem?_cons_succ, List.getElem?_cons_zero] <;> rfl)); (focus exact (fun _ _ _ h => h)); (focus rfl); (focus (intro w hSw; (try dsimp only at hSw); go_simp; try (with_reducible rfl))))
      (try simp only [Act.put, List.setIfInBounds_toArray, List.set_cons_zero, List.set_cons_succ])
      (refine wpAnyT_take (i := 1) (oi := ?_) (v := ?_) ?_ (by as_aux_lemma => kernel_rfl) (by as_aux_lemma => kernel_rfl) (by as_aux_lemma => kernel_rfl) (by as_aux_lemma => kernel_rfl) ?_ (Or.inl ⟨?_, ?_⟩) HS.out ?_; rotate_left 2; (focus (simp only [List.getElem?_toArray, List.getElem?_cons_succ, List.getElem?_cons_zero] <;> rfl)); (focus exact (fun _ _ _ h => h)); (focus rfl); (focus (intro w hSw; (try dsimp only at hSw); go_simp; try (with_reducible rfl))))
      (try simp only [Act.put, List.setIfInBounds_toArray, List.set_cons_zero, List.set_cons_succ])
      (refine wpAnyT_take (i := 2) (oi := ?_) (v := ?_) ?_ (by as_aux_lemma => kernel_rfl) (by as_aux_lemma => kernel_rfl) (by as_aux_lemma => kernel_rfl) (by as_aux_lemma => kernel_rfl) ?_ (Or.inl ⟨?_, ?_⟩) HS.out ?_; rotate_left 2; (focus (simp only [List.getElem?_toArray, List.getElem?_cons_succ, List.getElem?_cons_zero] <;> rfl)); (focus exact (fun _ _ _ h => h)); (focus rfl); (focus (intro w hSw; (try dsimp only at hSw); go_simp; try (with_reducible rfl))))
      (try simp only [Act.put, List.setIfInBounds_toArray, List.set_cons_zero, List.set_cons_succ])
      (refine wpAnyT_take (i := 3) (oi := ?_) (v := ?_) ?_ (by as_aux_lemma => kernel_rfl) (by as_aux_lemma => kernel_rfl) (by as_aux_lemma => kernel_rfl) (by as_aux_lemma => kernel_rfl) ?_ (Or.inl ⟨?_, ?_⟩) HS.out ?_; rotate_left 2; (focus (simp only [List.getElem?_toArray, List.getElem?_cons_succ, List.getElem?_cons_zero] <;> rfl)); (focus exact (fun _ _ _ h => h)); (focus rfl); (focus (intro w hSw; (try dsimp only at hSw); go_simp; try (with_reducible rfl))))
      (try simp only [Act.put, List.setIfInBounds_toArray, List.set_cons_zero, List.set_cons_succ])
      (refine wpAnyT_take (i := 4) (oi := ?_) (v := ?_) ?_ (by as_aux_lemma => kernel_rfl) (by as_aux_lemma => kernel_rfl) (by as_aux_lemma => kernel_rfl) (by as_aux_lemma => kernel_rfl) ?_ (Or.inl ⟨?_, ?_⟩) HS.out ?_; rotate_left 2; (focus (simp only [List.getElem?_toArray, List.getElem?_cons_succ, List.getElem?_cons_zero] <;> rfl)); (focus exact (fun _ _ _ h => h)); (focus rfl); (focus (intro w hSw; (try dsimp only at hSw); go_simp; try (with_reducible rfl))))
      (try simp only [Act.put, List.setIfInBounds_toArray, List.set_cons_zero, List.set_cons_succ])
      (refine wpAnyT_take (i := 5) (oi := ?_) (v := ?_) ?_ (by as_aux_lemma => kernel_rfl) (by as_aux_lemma => kernel_rfl) (by as_aux_lemma => kernel_rfl) (by as_aux_lemma => kernel_rfl) ?_ (Or.inl ⟨?_, ?_⟩) HS.out ?_; rotate_left 2; (focus (simp only [List.getElem?_toArray, List.getElem?_cons_succ, List.getElem?_cons_zero] <;> rfl)); (focus exact (fun _ _ _ h => h)); (focus rfl); (focus (intro w hSw; (try dsimp only at hSw); go_simp; try (with_reducible rfl))))
      (try simp only [Act.put, List.setIfInBounds_toArray, List.set_cons_zero, List.set_cons_succ])
      (refine wpAnyT_take (i := 6) (oi := ?_) (v := ?_) ?_ (by as_aux_lemma => kernel_rfl) (by as_aux_lemma => kernel_rfl) (by as_aux_lemma => kernel_rfl) (by as_aux_lemma => kernel_rfl) ?_ (Or.inl ⟨?_, ?_⟩) HS.out ?_; rotate_left 2; (focus (simp only [List.getElem?_toArray, List.getElem?_cons_succ, List.getElem?_cons_zero] <;> rfl)); (focus exact (fun _ _ _ h => h)); (focus rfl); (focus (intro w hSw; (try dsimp only at hSw); go_simp; try (with_reducible rfl))))
      (try simp only [Act.put, List.setIfInBounds_toArray, List.set_cons_zero, List.set_cons_succ])
      (refine wpAnyT_take (i := 7) (oi := ?_) (v := ?_) ?_ (by as_aux_lemma => kernel_rfl) (by as_aux_lemma => kernel_rfl) (by as_aux_lemma => kernel_rfl) (by as_aux_lemma => kernel_rfl) ?_ (Or.inl ⟨?_, ?_⟩) HS.out ?_; rotate_left 2; (focus (simp only [List.getElem?_toArray, List.getElem?_cons_succ, List.getElem?_cons_zero] <;> rfl)); (focus exact (fun _ _ _ h => h)); (focus rfl); (focus (intro w hSw; (try dsimp only at hSw); go_simp; try (with_reducible rfl))))
      (try simp only [Act.put, List.setIfInBounds_toArray, List.set_cons_zero, List.set_cons_succ])
      (refine wpAnyT_late (i := 8) (oi := ?_) ?_ (by as_aux_lemma => kernel_rfl) (by as_aux_lemma => kernel_rfl) (fun K hK => ?_); rotate_left; (focus (simp only [List.getElem?_toArray, List.getElem?_cons_succ, List.getElem?_cons_zero] <;> rfl)))
      go_simp
      refine HIH.out.mono ?_
      rintro en w4 ⟨rfl, hbn⟩
      have HB4 := Lib.hid (HBD.out.trans (hbn.mono HBD.out.size))
      clear hbn
      refine hK.out _ _ ?_
      clear hK K
      (try simp only [Act.put, List.setIfInBounds_toArray, List.set_cons_zero, List.set_cons_succ])
      (refine wpAnyT_late (i := 9) (oi := ?_) ?_ (by as_aux_lemma => kernel_rfl) (by as_aux_lemma => kernel_rfl) (fun K hK => ?_); rotate_left; (focus (simp only [List.getElem?_toArray, List.getElem?_cons_succ, List.getElem?_cons_zero] <;> rfl)))
      go_simp
      refine hK.out _ _ ?_
      clear hK K
      refine wpAnyT_done (by as_aux_lemma => kernel_rfl) ?_ _
      go_wp2_with fail
      go_roundw
      case rel => exact ⟨j + 1, by omega, by go_num, HB4.out⟩
      case measure => simp [intOf]; omega
    · obtain rfl : j = k := by omega
      have HB := Lib.hid hb
      clear hb
      go_wp2_with fail
      go_ret
      exact ⟨rfl, HB.out⟩
set_option maxHeartbeats 3200000 in
theorem same_self : ∀ e, SameSelf e := by
  intro e
  induction e with
  | none => intro w t1 x1 t2 x2 h1; exact h1.elim
  | mk op t i s k x ih =>
  intro w t1 x1 t2 x2 ok1 ok2
  obtain ⟨ty1, a1, c1, rfl, l1, m1, g1⟩ := ok1
  obtain ⟨ty2, a2, c2, rfl, l2, m2, g2⟩ := ok2
  obtain ⟨ta1, tc1, rfl, _, _⟩ := ty1.shape
  obtain ⟨ta2, tc2, rfl, _, _⟩ := ty2.shape
  show Calls _ _ #[.agg #[.int .i64 op, .int .i64 t.form, .int .i64 t.num, .string t.name, .slice ta1 t.k tc1, .int .i32 i, .string s, .slice a1 k c1], .agg #[.int .i64 op, .int .i64 t.form, .int .i64 t.num, .string t.name, .slice ta2 t.k tc2, .int .i32 i, .string s, .slice a2 k c2]] w _
  obtain ⟨w1, hw1⟩ : ∃ w1 : World, w1 = (w.alloc (.cells #[.int .i64 op, .int .i64 t.form, .int .i64 t.num, .string t.name, .slice ta1 t.k tc1, .int .i32 i, .string s, .slice a1 k c1] 27)).alloc (.cells #[.int .i64 op, .int .i64 t.form, .int .i64 t.num, .string t.name, .slice ta2 t.k tc2, .int .i32 i, .string s, .slice a2 k c2] 27) := ⟨_, rfl⟩
  have hb01 : Below w.heap.size w w1 := by rw [hw1]; exact ((Below.refl _ _).alloc (Nat.le_refl _) _).alloc (by simp) _
  have hs1 : w1.heap.size = w.heap.size + 2 := by rw [hw1]; simp
  have HE := Lib.hid (show w1.heap[w.heap.size]? = some (.cells #[.int .i64 op, .int .i64 t.form, .int .i64 t.num, .string t.name, .slice ta1 t.k tc1, .int .i32 i, .string s, .slice a1 k c1] 27 (0, 0)) from by rw [hw1]; exact heap_alloc2_old w _ _)
  have HZ := Lib.hid (show w1.heap[w.heap.size + 1]? = some (.cells #[.int .i64 op, .int .i64 t.form, .int .i64 t.num, .string t.name, .slice ta2 t.k tc2, .int .i32 i, .string s, .slice a2 k c2] 27 (0, 0)) from by rw [hw1]; exact heap_alloc2_new w _ _)
  have HA := Lib.hid (alike_self t w1 _ _ (TyOk.below hb01 (Nat.le_refl _) _ _ ty1) (TyOk.below hb01 (Nat.le_refl _) _ _ ty2))
  unfold tyV at HA
  have HX := Lib.hid (fun W (hb : Below w.heap.size w W) => sames_self k x ih W a1 a2 c1 c2 (ExsAt.below g1 hb (Nat.le_refl _)) (ExsAt.below g2 hb (Nat.le_refl _)) l1 m1 l2 m2)
  have HB01 := Lib.hid hb01
  have HS1 := Lib.hid hs1
  have HW1 := Lib.hid hw1
  clear ty1 ty2 g1 g2 ih hw1 hs1 hb01
  go_enter Try.func11, Try.ntmps11
  go_wp2_with fail
  rw [← HW1.out]
  refine HA.out.mono ?_
  rintro en w2 ⟨rfl, hb2⟩
  have e7 : w2.cell? ⟨w.heap.size, 7, none⟩ = some (.slice a1 k c1) := cell_below hb2 (Nat.le_refl _) ((cell_of_row w1 _ 7 _ _ _ HE.out).trans rfl)
  have z7 : w2.cell? ⟨w.heap.size + 1, 7, none⟩ = some (.slice a2 k c2) := cell_below hb2 (Nat.le_refl _) ((cell_of_row w1 _ 7 _ _ _ HZ.out).trans rfl)
  have hb02 : Below w.heap.size w w2 := HB01.out.trans (hb2.mono (by rw [HS1.out]; omega))
  have HX2 := Lib.hid (HX.out w2 hb02)
  have HB2 := Lib.hid hb02
  clear hb2 hb02
  go_wp2_with fail
  refine HX2.out.mono ?_
  rintro en w3 ⟨rfl, hb3⟩
  have HB3 := Lib.hid (HB2.out.trans (hb3.mono HB2.out.size))
  clear hb3 e7 z7
  go_wp2_with fail
  go_ret
  exact ⟨rfl, HB3.out⟩
end Go.Proofs.Ytiikeilpgajmfaa
