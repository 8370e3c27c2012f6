/- Trees: expressions that are small. -/
import Derived.Test.YtipcnkgojonmjaaTr5
namespace Go.Proofs.Ytipcnkgojonmjaa
open Go.RowKit Go.Waf
set_option maxRecDepth 100000
set_option linter.unusedVariables false
set_option linter.unusedSimpArgs false

def txB (s : ByteArray) : Bool := decide (s.size ≤ 120)
/-- May an expression be, but for its depth? -/
def smEx : Ex → Bool
  | .none => false
  | .mk _ t _ s k x => txB s && smTy 8 t && few k && !anyB (fun j => !smEx (x j)) k
theorem not_small (w : World) (e : Ex) (tv xv : Value) (b : Bool) (H : ∀ W, Below w.heap.size w W → Calls Try.prog 69 #[exV e tv xv] W fun en w' => en = .returned (.bool b) ∧ Below W.heap.size W w') :
    Calls Try.prog 97 #[exV e tv xv] w fun en w' => en = .returned (.bool (!b)) ∧ Below w.heap.size w w' := by
  have H := Lib.hid H
  unfold exV at H ⊢
  go_enter Try.func97, Try.ntmps97
  go_wp2_with fail
  refine (H.out _ ((Below.refl _ _).alloc (Nat.le_refl _) _)).mono ?_
  rintro en w2 ⟨rfl, hb2⟩
  have HB2 := Lib.hid (((Below.refl _ w).alloc (Nat.le_refl _) _).trans (hb2.mono (by simp)))
  clear hb2
  go_wp2_with fail
  go_ret
  exact ⟨rfl, HB2.out⟩
def SmExP (e : Ex) : Prop := ∀ (w : World) (tv xv : Value), ExOk w e tv xv → Calls Try.prog 69 #[exV e tv xv] w fun en w' => en = .returned (.bool (smEx e)) ∧ Below w.heap.size w w'
set_option maxHeartbeats 3200000 in
theorem smallExpr_prog : ∀ e, SmExP e := by
  intro e
  induction e with
  | none => intro w tv xv h; exact h.elim
  | mk op t i s k x ih =>
  intro w tv xv hok
  obtain ⟨hty, a, c, rfl, h1, h2, hx⟩ := hok
  obtain ⟨ta, tc, rfl, _, _⟩ := hty.shape
  have HD := Lib.hid (show smEx (.mk op t i s k x) = (txB s && smTy 8 t && few k && !anyB (fun j => !smEx (x j)) k) from rfl)
  show Calls _ _ #[.agg #[.int .i64 op, .int .i64 t.form, .int .i64 t.num, .string t.name, .slice ta t.k tc, .int .i32 i, .string s, .slice a k c]] w _
  obtain ⟨w1, hw1⟩ : ∃ w1 : World, w1 = w.alloc (.cells #[.int .i64 op, .int .i64 t.form, .int .i64 t.num, .string t.name, .slice ta t.k tc, .int .i32 i, .string s, .slice a k c] 36) := ⟨_, rfl⟩
  have hb1 : Below w.heap.size w w1 := by rw [hw1]; exact (Below.refl _ _).alloc (Nat.le_refl _) _
  have hz := (show w1.heap[w.heap.size]? = some (.cells #[.int .i64 op, .int .i64 t.form, .int .i64 t.num, .string t.name, .slice ta t.k tc, .int .i32 i, .string s, .slice a k c] 36 (0, 0)) from by rw [hw1]; exact heap_alloc_new w _)
  have HC7 := Lib.hid (rowC hz 7 _)
  have HTY := Lib.hid (smallType_prog 8 (by omega) t w1 _ (TyOk.below hb1 (Nat.le_refl _) _ _ hty))
  have HLS := Lib.hid (fun w => list_prog w k)
  have HCO := Lib.hid (fun W (hbw : Below w.heap.size w W) => contains_Ex W 97 a k c x (fun j => !smEx (x j)) (ExsAt.below hx hbw (Nat.le_refl _)) h1 h2 (fun W2 j tu xu hj hok hb2 =>
    not_small W2 (x j) tu xu _ (fun W3 hb3 => ih j W3 tu xu (ExOk.below hb3 (Nat.le_refl _) _ _ _ hok))) (enters_of Try.func97 (by kernel_rfl) rfl))
  have HW1 := Lib.hid hw1
  have HB1 := Lib.hid hb1
  have HS1 := Lib.hid (show w1.heap.size = w.heap.size + 1 from by rw [hw1]; simp)
  unfold tyV at HTY
  obtain ⟨TF, hTF⟩ : ∃ f, f = t.form := ⟨_, rfl⟩
  obtain ⟨TN, hTN⟩ : ∃ f, f = t.num := ⟨_, rfl⟩
  obtain ⟨TS, hTS⟩ : ∃ f, f = t.name := ⟨_, rfl⟩
  obtain ⟨TK, hTK⟩ : ∃ f, f = t.k := ⟨_, rfl⟩
  obtain ⟨B1, hB1⟩ : ∃ b, b = smTy 8 t := ⟨_, rfl⟩
  obtain ⟨B2, hB2⟩ : ∃ b, b = few k := ⟨_, rfl⟩
  obtain ⟨B3, hB3⟩ : ∃ b, b = anyB (fun j => !smEx (x j)) k := ⟨_, rfl⟩
  obtain ⟨B4, hB4⟩ : ∃ b, b = smEx (.mk op t i s k x) := ⟨_, rfl⟩
  rw [← hTF, ← hTN, ← hTS, ← hTK] at HTY HW1
  rw [← hTF, ← hTN, ← hTS, ← hTK] at hz
  rw [← hTF, ← hTN, ← hTS, ← hTK]
  rw [← hB1] at HTY
  rw [← hB2] at HLS
  simp only [← hB3] at HCO
  rw [← hB1, ← hB2, ← hB3, ← hB4] at HD
  rw [← hB4]
  have c1 := rowC hz 1 _
  have c2 := rowC hz 2 _
  have c3 := rowC hz 3 _
  have c4 := rowC hz 4 _
  have c7 := HC7.out
  clear hTF hTN hTS hTK hB1 hB2 hB3 hB4 hw1 hb1 hx ih hty hz
  by_cases hs : s.size ≤ 120
  · have HS := Lib.hid (show txB s = true from by unfold txB; simpa using hs)
    cases B1
    · obtain rfl : B4 = false := by rw [HD.out]; simp
      go_enter Try.func69, Try.ntmps69
      go_wp2_with fail
      rw [← HW1.out]
      refine HTY.out.mono ?_
      rintro en w2 ⟨rfl, hb2⟩
      have HB2 := Lib.hid (HB1.out.trans (hb2.mono (by rw [HS1.out]; omega)))
      clear hb2
      go_wp2_with fail
      go_ret
      exact ⟨rfl, HB2.out⟩
    · cases B2
      · obtain rfl : B4 = false := by rw [HD.out]; simp
        go_enter Try.func69, Try.ntmps69
        go_wp2_with fail
        rw [← HW1.out]
        refine HTY.out.mono ?_
        rintro en w2 ⟨rfl, hb2⟩
        have d7 : w2.cell? ⟨w.heap.size, 7, none⟩ = some (.slice a k c) := cell_below hb2 (Nat.le_refl _) HC7.out
        have HB2 := Lib.hid (HB1.out.trans (hb2.mono (by rw [HS1.out]; omega)))
        clear hb2
        go_wp2_with fail
        refine (HLS.out _).mono ?_
        rintro en w3 ⟨rfl, rfl⟩
        go_wp2_with fail
        go_ret
        exact ⟨rfl, HB2.out⟩
      · have HD2 := Lib.hid (show B4 = !B3 from by rw [HD.out, HS.out]; simp)
        go_enter Try.func69, Try.ntmps69
        go_wp2_with fail
        rw [← HW1.out]
        refine HTY.out.mono ?_
        rintro en w2 ⟨rfl, hb2⟩
        have d7 : w2.cell? ⟨w.heap.size, 7, none⟩ = some (.slice a k c) := cell_below hb2 (Nat.le_refl _) HC7.out
        have HB2 := Lib.hid (HB1.out.trans (hb2.mono (by rw [HS1.out]; omega)))
        clear hb2
        go_wp2_with fail
        refine (HLS.out _).mono ?_
        rintro en w3 ⟨rfl, rfl⟩
        go_wp2_with fail
        refine (HCO.out _ HB2.out).mono ?_
        rintro en w4 ⟨rfl, hb4⟩
        have HB4 := Lib.hid (HB2.out.trans (hb4.mono HB2.out.size))
        clear hb4
        go_wp2_with fail
        go_ret
        exact ⟨by rw [HD2.out]; rfl, HB4.out⟩
  · obtain rfl : B4 = false := by rw [HD.out, show txB s = false from by unfold txB; simpa using hs]; rfl
    go_enter Try.func69, Try.ntmps69
    go_wp2_with fail
    rw [← HW1.out]
    go_ret
    exact ⟨rfl, HB1.out⟩
end Go.Proofs.Ytipcnkgojonmjaa
