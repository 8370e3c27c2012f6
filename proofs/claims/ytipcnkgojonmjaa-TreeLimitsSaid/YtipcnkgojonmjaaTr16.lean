/- Trees: a tree is the same as itself, wherever both lie. -/
import Derived.Test.YtipcnkgojonmjaaTr15
namespace Go.Proofs.Ytipcnkgojonmjaa
open Go.RowKit Go.Waf
set_option maxRecDepth 100000
set_option linter.unusedVariables false
set_option linter.unusedSimpArgs false

theorem eqAll (k : Nat) : (decide (k = k) && !anyB (fun j => !(fun _ => true : Nat → Bool) j) k) = true := by
  have h : anyB (fun _ => false) k = false := anyB_false fun _ _ => rfl
  simpa using h
theorem allTrue {P : Program} {fid : Nat} {args : Array Value} {W : World} {k : Nat} (h : Calls P fid args W fun en w' => en = .returned (.bool (decide (k = k) && !anyB (fun j => !(fun _ => true : Nat → Bool) j) k)) ∧ Below W.heap.size W w') : Calls P fid args W fun en w' => en = .returned (.bool true) ∧ Below W.heap.size W w' :=
  h.mono fun en w' ⟨h1, h2⟩ => ⟨h1.trans (congrArg (fun b => Ending.returned (.bool b)) (eqAll k)), h2⟩
def TySelf (t : Ty) : Prop := ∀ (w : World) (v1 v2 : Value), TyOk w t v1 → TyOk w t v2 → Calls Try.prog 56 #[tyV t v1, tyV t v2] w fun en w' => en = .returned (.bool true) ∧ Below w.heap.size w w'
set_option maxHeartbeats 3200000 in
theorem sameType_self : ∀ t, TySelf t := by
  intro t
  induction t with
  | none => intro w v1 v2 h; exact h.elim
  | mk f n s k of ih =>
  intro w v1 v2 ok1 ok2
  obtain ⟨a1, c1, rfl, l1, m1, g1⟩ := ok1.open
  obtain ⟨a2, c2, rfl, l2, m2, g2⟩ := ok2.open
  have HEQ := Lib.hid (fun W (hb : Below w.heap.size w W) => allTrue (equal_Ty W 56 a1 a2 k c1 k c2 of of (fun _ => true) (TysAt.below g1 hb (Nat.le_refl _)) (TysAt.below g2 hb (Nat.le_refl _)) l1 m1 l2 m2 (fun _ W2 j u v hj hu hv hb2 => ih j W2 u v hu hv) (enters_of Try.func56 (by kernel_rfl) rfl)))
  show Calls _ _ #[.agg #[.int .i64 f, .int .i64 n, .string s, .slice a1 k c1], .agg #[.int .i64 f, .int .i64 n, .string s, .slice a2 k c2]] w _
  clear ih ok1 ok2 g1 g2
  go_enter Try.func56, Try.ntmps56
  go_wp2_with fail
  have hb := ((Below.refl _ w).alloc (Nat.le_refl _) (.cells #[.int .i64 f, .int .i64 n, .string s, .slice a1 k c1] 33)).alloc (by simp) (.cells #[.int .i64 f, .int .i64 n, .string s, .slice a2 k c2] 33)
  refine (HEQ.out _ hb).mono ?_
  rintro en w2 ⟨rfl, hb2⟩
  have HB2 := Lib.hid (hb.trans (hb2.mono hb.size))
  clear hb hb2
  go_wp2_with fail
  go_ret
  exact ⟨rfl, HB2.out⟩
def ExSelf (e : Ex) : Prop := ∀ (w : World) (t1 x1 t2 x2 : Value), ExOk w e t1 x1 → ExOk w e t2 x2 → Calls Try.prog 12 #[exV e t1 x1, exV e t2 x2] w fun en w' => en = .returned (.bool true) ∧ Below w.heap.size w w'
set_option maxHeartbeats 3200000 in
theorem sameExpr_self : ∀ e, ExSelf e := by
  intro e
  induction e with
  | none => intro w t1 x1 t2 x2 h; exact h.elim
  | mk op t i s k x ih =>
  intro w t1 x1 t2 x2 ok1 ok2
  have hty := fun W hb => sameType_self t W t1 t2 (TyOk.below (w := w) (w' := W) hb (Nat.le_refl _) _ _ ok1.ty) (TyOk.below hb (Nat.le_refl _) _ _ ok2.ty)
  obtain ⟨h1, a1, c1, rfl, l1, m1, g1⟩ := ok1
  obtain ⟨h2, a2, c2, rfl, l2, m2, g2⟩ := ok2
  obtain ⟨ua, uc, rfl, _, _⟩ := h1.shape
  obtain ⟨va, vc, rfl, _, _⟩ := h2.shape
  have HEQ := Lib.hid (fun W (hb : Below w.heap.size w W) => allTrue (equal_Ex W 12 a1 a2 k c1 k c2 x x (fun _ => true) (ExsAt.below (show ExsAt w a1 k x from g1) hb (Nat.le_refl _)) (ExsAt.below (show ExsAt w a2 k x from g2) hb (Nat.le_refl _)) l1 m1 l2 m2 (fun _ W2 j u1 y1 u2 y2 hj hu hv hb2 => ih j W2 u1 y1 u2 y2 hu hv) (enters_of Try.func12 (by kernel_rfl) rfl)))
  have HTY := Lib.hid hty
  unfold tyV at HTY
  show Calls _ _ #[.agg #[.int .i64 op, .int .i64 t.form, .int .i64 t.num, .string t.name, .slice ua t.k uc, .int .i32 i, .string s, .slice a1 k c1], .agg #[.int .i64 op, .int .i64 t.form, .int .i64 t.num, .string t.name, .slice va t.k vc, .int .i32 i, .string s, .slice a2 k c2]] w _
  obtain ⟨w1, hw1⟩ : ∃ w1 : World, w1 = (w.alloc (.cells #[.int .i64 op, .int .i64 t.form, .int .i64 t.num, .string t.name, .slice ua t.k uc, .int .i32 i, .string s, .slice a1 k c1] 36)).alloc (.cells #[.int .i64 op, .int .i64 t.form, .int .i64 t.num, .string t.name, .slice va t.k vc, .int .i32 i, .string s, .slice a2 k c2] 36) := ⟨_, rfl⟩
  have hb1 : Below w.heap.size w w1 := by rw [hw1]; exact ((Below.refl _ _).alloc (Nat.le_refl _) _).alloc (by simp) _
  have HZ := Lib.hid (show w1.heap[w.heap.size]? = some (.cells #[.int .i64 op, .int .i64 t.form, .int .i64 t.num, .string t.name, .slice ua t.k uc, .int .i32 i, .string s, .slice a1 k c1] 36 (0, 0)) from by rw [hw1]; exact heap_alloc2_old w _ _)
  have HY := Lib.hid (show w1.heap[w.heap.size + 1]? = some (.cells #[.int .i64 op, .int .i64 t.form, .int .i64 t.num, .string t.name, .slice va t.k vc, .int .i32 i, .string s, .slice a2 k c2] 36 (0, 0)) from by rw [hw1]; exact heap_alloc2_new w _ _)
  have HW1 := Lib.hid hw1
  have HB1 := Lib.hid hb1
  clear ih h1 h2 g1 g2 hty hw1 hb1
  go_enter Try.func12, Try.ntmps12
  go_wp2_with fail
  rw [← HW1.out]
  refine (HTY.out _ HB1.out).mono ?_
  rintro en w2 ⟨rfl, hb2⟩
  have c5 := cell_below hb2 (Nat.le_refl _) (rowC HZ.out 5 _)
  have c6 := cell_below hb2 (Nat.le_refl _) (rowC HZ.out 6 _)
  have c7 := cell_below hb2 (Nat.le_refl _) (rowC HZ.out 7 _)
  have d5 := cell_below hb2 (Nat.le_refl _) (rowC HY.out 5 _)
  have d6 := cell_below hb2 (Nat.le_refl _) (rowC HY.out 6 _)
  have d7 := cell_below hb2 (Nat.le_refl _) (rowC HY.out 7 _)
  have HB2 := Lib.hid (HB1.out.trans (hb2.mono HB1.out.size))
  clear hb2
  go_wp2_with fail
  refine (HEQ.out _ HB2.out).mono ?_
  rintro en w3 ⟨rfl, hb3⟩
  have HB3 := Lib.hid (HB2.out.trans (hb3.mono HB2.out.size))
  clear hb3
  go_wp2_with fail
  go_ret
  exact ⟨rfl, HB3.out⟩
/-- A statement of no bodies and no numbers. -/
def Flat (s : St) : Prop := s.nb = 0 ∧ s.ni = 0
set_option maxHeartbeats 3200000 in
theorem sameStmt_self (s : St) (hf : Flat s) (w : World) (x1 b1 i1 x2 b2 i2 : Value) (ok1 : StOk w s x1 b1 i1) (ok2 : StOk w s x2 b2 i2) : Calls Try.prog 59 #[stV s x1 b1 i1, stV s x2 b2 i2] w fun en w' => en = .returned (.bool true) ∧ Below w.heap.size w w' := by
  obtain ⟨⟨xa, xc, rfl, k1, k2, hx1⟩, ⟨ia, ic, rfl, _, _, _⟩, ba, bc, rfl, q1, q2, hb1⟩ := ok1.open
  obtain ⟨⟨ya, yc, rfl, l1, l2, hx2⟩, ⟨ja, jc, rfl, _, _, _⟩, ea, ec, rfl, r1, r2, hb2⟩ := ok2.open
  have HEX := Lib.hid (fun W (hb : Below w.heap.size w W) => allTrue (equal_Ex W 12 xa ya s.nx xc s.nx yc s.x s.x (fun _ => true) (ExsAt.below hx1 hb (Nat.le_refl _)) (ExsAt.below hx2 hb (Nat.le_refl _)) k1 k2 l1 l2 (fun _ W2 j u1 y1 u2 y2 hj hu hv hb2 => sameExpr_self (s.x j) W2 u1 y1 u2 y2 hu hv) (enters_of Try.func12 (by kernel_rfl) rfl)))
  have HEB := Lib.hid (fun W (hb : Below w.heap.size w W) => allTrue (equal_Bs W 13 ba ea s.nb bc s.nb ec s.bl s.bl s.b s.b (fun _ => true) (BsAt.below hb1 hb (Nat.le_refl _)) (BsAt.below hb2 hb (Nat.le_refl _)) q1 q2 r1 r2 (fun _ W2 j _ _ _ _ hj => absurd hj (by rw [hf.1]; omega)) (enters_of Try.func13 (by kernel_rfl) rfl)))
  have HEI := Lib.hid (fun W => equals_none_I32 W ia ja ic jc)
  have hni := hf.2
  unfold stV
  rw [hni]
  obtain ⟨NX, hNX⟩ : ∃ k, k = s.nx := ⟨_, rfl⟩
  obtain ⟨NB, hNB⟩ : ∃ k, k = s.nb := ⟨_, rfl⟩
  obtain ⟨op, hop⟩ : ∃ k, k = s.op := ⟨_, rfl⟩
  rw [← hNX] at HEX
  rw [← hNB] at HEB
  rw [← hNX, ← hNB, ← hop]
  obtain ⟨w1, hw1⟩ : ∃ w1 : World, w1 = (w.alloc (.cells #[.int .i64 op, .slice xa NX xc, .slice ba NB bc, .slice ia 0 ic] 40)).alloc (.cells #[.int .i64 op, .slice ya NX yc, .slice ea NB ec, .slice ja 0 jc] 40) := ⟨_, rfl⟩
  have hb1 : Below w.heap.size w w1 := by rw [hw1]; exact ((Below.refl _ _).alloc (Nat.le_refl _) _).alloc (by simp) _
  have HZ := Lib.hid (show w1.heap[w.heap.size]? = some (.cells #[.int .i64 op, .slice xa NX xc, .slice ba NB bc, .slice ia 0 ic] 40 (0, 0)) from by rw [hw1]; exact heap_alloc2_old w _ _)
  have HY := Lib.hid (show w1.heap[w.heap.size + 1]? = some (.cells #[.int .i64 op, .slice ya NX yc, .slice ea NB ec, .slice ja 0 jc] 40 (0, 0)) from by rw [hw1]; exact heap_alloc2_new w _ _)
  have HW1 := Lib.hid hw1
  have HB1 := Lib.hid hb1
  clear ok1 ok2 hx1 hx2 hb2 hw1 hb1 hf hni hNX hNB hop
  go_enter Try.func59, Try.ntmps59
  go_wp2_with fail
  rw [← HW1.out]
  refine (HEX.out _ HB1.out).mono ?_
  rintro en w2 ⟨rfl, hb2⟩
  have HB12 := Lib.hid hb2
  have c2 := cell_below hb2 (Nat.le_refl _) (rowC HZ.out 2 _)
  have d2 := cell_below hb2 (Nat.le_refl _) (rowC HY.out 2 _)
  have HB2 := Lib.hid (HB1.out.trans (hb2.mono HB1.out.size))
  clear hb2
  go_wp2_with fail
  refine (HEB.out _ HB2.out).mono ?_
  rintro en w3 ⟨rfl, hb3⟩
  have h13 := HB12.out.trans (hb3.mono HB12.out.size)
  have c3 := cell_below h13 (Nat.le_refl _) (rowC HZ.out 3 _)
  have d3 := cell_below h13 (Nat.le_refl _) (rowC HY.out 3 _)
  have HB3 := Lib.hid (HB2.out.trans (hb3.mono HB2.out.size))
  clear hb3 h13
  go_wp2_with fail
  refine (HEI.out _).mono ?_
  rintro en w4 ⟨rfl, rfl⟩
  go_wp2_with fail
  go_ret
  exact ⟨rfl, HB3.out⟩
set_option maxHeartbeats 3200000 in
theorem sameBody_any (w : World) (a a' : Option Addr) (k c k' c' : Nat) (f f' : Nat → St) (h : StsAt w a k f) (h' : StsAt w a' k' f') (h1 : k ≤ c) (h2 : c ≤ 9223372036854775807) (h3 : k' ≤ c') (h4 : c' ≤ 9223372036854775807) (hs : k = k' → ∀ j, j < k → f j = f' j ∧ Flat (f j)) :
    Calls Try.prog 13 #[.slice a k c, .slice a' k' c'] w fun en w' => en = .returned (.bool (decide (k = k'))) ∧ Below w.heap.size w w' := by
  have H := Lib.hid ((equal_St w 59 a a' k c k' c' f f' (fun _ => true) h h' h1 h2 h3 h4 (fun he W j x1 b1 i1 x2 b2 i2 hj hu hv hb => by
    obtain ⟨e, hf⟩ := hs he j hj
    rw [← e] at hv ⊢
    exact sameStmt_self (f j) hf W _ _ _ _ _ _ hu hv) (enters_of Try.func59 (by kernel_rfl) rfl)).mono (R' := fun en w' => en = .returned (.bool (decide (k = k'))) ∧ Below w.heap.size w w') fun en w' ⟨e1, e2⟩ => ⟨e1.trans (congrArg (fun b => Ending.returned (.bool b)) (by
      have h : anyB (fun _ => false) k = false := anyB_false fun _ _ => rfl
      show (decide (k = k') && !anyB (fun _ => false) k) = decide (k = k')
      rw [h]; simp)), e2⟩)
  obtain ⟨R, hR⟩ : ∃ R, R = decide (k = k') := ⟨_, rfl⟩
  rw [← hR] at H ⊢
  clear h h' hs hR
  go_enter Try.func13, Try.ntmps13
  go_wp2_with fail
  refine H.out.mono ?_
  rintro en w2 ⟨rfl, hb2⟩
  have HB2 := Lib.hid hb2
  clear hb2
  go_wp2_with fail
  go_ret
  exact ⟨rfl, HB2.out⟩
end Go.Proofs.Ytipcnkgojonmjaa
