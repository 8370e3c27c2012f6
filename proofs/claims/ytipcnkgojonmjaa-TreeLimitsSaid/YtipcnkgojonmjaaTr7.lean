/- Trees: expressions that are small, by the reference; lists of them. -/
import Derived.Test.YtipcnkgojonmjaaTr6
namespace Go.Proofs.Ytipcnkgojonmjaa
open Go.RowKit Go.Waf
set_option maxRecDepth 100000
set_option linter.unusedVariables false
set_option linter.unusedSimpArgs false

def SmExR (e : Ex) : Prop := ∀ (w : World) (tv xv : Value), ExOk w e tv xv → Calls Try.prog 77 #[exV e tv xv] w fun en w' => en = .returned (.bool (smEx e)) ∧ Below w.heap.size w w'
set_option maxHeartbeats 3200000 in
theorem smallExpr_ref : ∀ e, SmExR e := by
  intro e
  induction e with
  | none => intro w tv xv h; exact h.elim
  | mk op t i s k x ih =>
  intro w tv xv hok
  obtain ⟨hty, a, c, rfl, h1, h2, hx⟩ := hok
  obtain ⟨ta, tc, rfl, _, _⟩ := hty.shape
  have HD := Lib.hid (show smEx (.mk op t i s k x) = (txB s && smTy 8 t && few k && !anyB (fun j => !smEx (x j)) k) from rfl)
  show Calls _ _ #[.agg #[.int .i64 op, .int .i64 t.form, .int .i64 t.num, .string t.name, .slice ta t.k tc, .int .i32 i, .string s, .slice a k c]] w _
  obtain ⟨w1, hw1⟩ : ∃ w1 : World, w1 = w.alloc (.cells #[.int .i64 op, .int .i64 t.form, .int .i64 t.num, .string t.name, .slice ta t.k tc, .int .i32 i, .string s, .slice a k c] 36) := ⟨_, rfl⟩
  have hb1 : Below w.heap.size w w1 := by rw [hw1]; exact (Below.refl _ _).alloc (Nat.le_refl _) _
  have hz := (show w1.heap[w.heap.size]? = some (.cells #[.int .i64 op, .int .i64 t.form, .int .i64 t.num, .string t.name, .slice ta t.k tc, .int .i32 i, .string s, .slice a k c] 36 (0, 0)) from by rw [hw1]; exact heap_alloc_new w _)
  have HC7 := Lib.hid (rowC hz 7 _)
  have HTY := Lib.hid (smallType_ref 8 (by omega) t w1 _ (TyOk.below hb1 (Nat.le_refl _) _ _ hty))
  have HLS := Lib.hid (fun w => few_ref w k)
  obtain ⟨P, hP⟩ : ∃ P : Nat → Bool, P = fun j => !smEx (x j) := ⟨_, rfl⟩
  have HI := Lib.hid (fun j W tu xu hok => show Calls Try.prog 77 #[exV (x j) tu xu] W fun en w' => en = .returned (.bool (!P j)) ∧ Below W.heap.size W w' from by
    have h := ih j W tu xu hok
    rw [show smEx (x j) = !P j from by rw [hP]; simp] at h
    exact h)
  have HX := Lib.hid hx
  have HW1 := Lib.hid hw1
  have HB1 := Lib.hid hb1
  have HS1 := Lib.hid (show w1.heap.size = w.heap.size + 1 from by rw [hw1]; simp)
  unfold tyV at HTY
  obtain ⟨TF, hTF⟩ : ∃ f, f = t.form := ⟨_, rfl⟩
  obtain ⟨TN, hTN⟩ : ∃ f, f = t.num := ⟨_, rfl⟩
  obtain ⟨TS, hTS⟩ : ∃ f, f = t.name := ⟨_, rfl⟩
  obtain ⟨TK, hTK⟩ : ∃ f, f = t.k := ⟨_, rfl⟩
  obtain ⟨B1, hB1⟩ : ∃ b, b = smTy 8 t := ⟨_, rfl⟩
  obtain ⟨B2, hB2⟩ : ∃ b, b = few k := ⟨_, rfl⟩
  obtain ⟨B4, hB4⟩ : ∃ b, b = smEx (.mk op t i s k x) := ⟨_, rfl⟩
  rw [← hTF, ← hTN, ← hTS, ← hTK] at HTY HW1
  rw [← hTF, ← hTN, ← hTS, ← hTK] at hz
  rw [← hTF, ← hTN, ← hTS, ← hTK]
  rw [← hB1] at HTY
  rw [← hB2] at HLS
  rw [← hB1, ← hB2, ← hP, ← hB4] at HD
  rw [← hB4]
  have c1 := rowC hz 1 _
  have c2 := rowC hz 2 _
  have c3 := rowC hz 3 _
  have c4 := rowC hz 4 _
  have c6 := rowC hz 6 _
  have c7 := HC7.out
  clear hTF hTN hTS hTK hB1 hB2 hB4 hw1 hb1 hx ih hty hz hP
  by_cases hs : s.size ≤ 120
  · have HS := Lib.hid (show txB s = true from by unfold txB; simpa using hs)
    cases B2
    · obtain rfl : B4 = false := by rw [HD.out]; simp
      go_enter Try.func77, Try.ntmps77
      go_wp2_with fail
      rw [← HW1.out]
      refine (HLS.out _).mono ?_
      rintro en w3 ⟨rfl, rfl⟩
      go_wp2_with fail
      go_ret
      exact ⟨rfl, HB1.out⟩
    · cases B1
      · obtain rfl : B4 = false := by rw [HD.out]; simp
        go_enter Try.func77, Try.ntmps77
        go_wp2_with fail
        rw [← HW1.out]
        refine (HLS.out _).mono ?_
        rintro en w3 ⟨rfl, rfl⟩
        go_wp2_with fail
        refine HTY.out.mono ?_
        rintro en w2 ⟨rfl, hb2⟩
        have HB2 := Lib.hid (HB1.out.trans (hb2.mono (by rw [HS1.out]; omega)))
        clear hb2
        go_wp2_with fail
        go_ret
        exact ⟨rfl, HB2.out⟩
      · have HD2 := Lib.hid (show B4 = !anyB P k from by rw [HD.out, HS.out]; simp)
        go_enter Try.func77, Try.ntmps77
        go_wp2_with fail
        rw [← HW1.out]
        refine (HLS.out _).mono ?_
        rintro en w3 ⟨rfl, rfl⟩
        go_wp2_with fail
        refine HTY.out.mono ?_
        rintro en w2 ⟨rfl, hb2⟩
        have HB12 := Lib.hid hb2
        clear hb2 c1 c2 c3 c4 c6 c7
        go_wp2_with fail
        go_loopw [3] (fun z wr => ∃ j : Nat, j ≤ k ∧ z = .int .i64 (j : Int) ∧ (∀ i, i < j → P i = false) ∧ Below w1.heap.size w1 wr) (fun z _ => k - (intOf z).toNat)
        case atStart => exact ⟨0, by omega, rfl, fun i hi => absurd hi (by omega), HB12.out⟩
        case round =>
          obtain ⟨j, hj, rfl, hno, hb⟩ := hrel
          obtain ⟨wo, rfl⟩ : ∃ wo : World, wo = wr := ⟨_, rfl⟩
          have c7 : wo.cell? ⟨w.heap.size, 7, none⟩ = some (.slice a k c) := cell_below hb (Nat.le_refl _) HC7.out
          by_cases hlt : j < k
          · obtain ⟨b, o, rfl, hc⟩ := HX.out (by omega)
            obtain ⟨tu, xu, hok, hcc⟩ := hc j hlt
            have hb0 : Below w.heap.size w wo := HB1.out.trans (hb.mono HB1.out.size)
            obtain ⟨d0, d1, d2, d3, d4, d5, d6, d7⟩ := hcc.below hb0 (Nat.le_refl _)
            have HC := Lib.hid (HI.out j wo tu xu (ExOk.below hb0 (Nat.le_refl _) _ _ _ hok))
            obtain ⟨E, hE⟩ : ∃ E, E = x j := ⟨_, rfl⟩
            rw [← hE] at HC d0 d1 d2 d3 d5 d6
            unfold exV at HC
            have HB := Lib.hid hb
            have HNO := Lib.hid hno
            clear hc hcc hok hno hb hb0 hE
            cases hp : P j
            · have HP := Lib.hid hp
              rw [hp] at HC
              clear hp
              go_wp2_with fail
              refine HC.out.mono ?_
              rintro en w4 ⟨rfl, hb2⟩
              have HB2 := Lib.hid (HB.out.trans (hb2.mono HB.out.size))
              clear hb2
              go_wp2_with fail
              go_roundw
              case rel => exact ⟨j + 1, by omega, by go_num, fun i hi => by
                rcases Nat.lt_succ_iff_lt_or_eq.1 hi with h | h
                · exact HNO.out i h
                · rw [h]; exact HP.out, HB2.out⟩
              case measure => simp [intOf]; omega
            · have HP := Lib.hid (show B4 = false from by rw [HD2.out, anyB_true hlt hp]; rfl)
              rw [hp] at HC
              clear hp
              go_wp2_with fail
              refine HC.out.mono ?_
              rintro en w4 ⟨rfl, hb2⟩
              have HB2 := Lib.hid (HB.out.trans (hb2.mono HB.out.size))
              clear hb2
              go_wp2_with fail
              go_ret
              exact ⟨by rw [HP.out]; rfl, HB1.out.trans (HB2.out.mono (by rw [HS1.out]; omega))⟩
          · obtain rfl : j = k := by omega
            have HP := Lib.hid (show B4 = true from by rw [HD2.out, anyB_false hno]; rfl)
            have HB := Lib.hid hb
            clear hno hb
            go_wp2_with fail
            go_ret
            exact ⟨by rw [HP.out]; rfl, HB1.out.trans (HB.out.mono (by rw [HS1.out]; omega))⟩
  · obtain rfl : B4 = false := by rw [HD.out, show txB s = false from by unfold txB; simpa using hs]; rfl
    go_enter Try.func77, Try.ntmps77
    go_wp2_with fail
    rw [← HW1.out]
    go_ret
    exact ⟨rfl, HB1.out⟩
/-- May an expression be? -/
def shB (e : Ex) : Bool := decide (e.dep ≤ 64) && smEx e
set_option maxHeartbeats 3200000 in
theorem shallow_prog (e : Ex) (w : World) (tv xv : Value) (hd : e.dep ≤ 1000000) (hok : ExOk w e tv xv) : Calls Try.prog 22 #[exV e tv xv] w fun en w' => en = .returned (.bool (shB e)) ∧ Below w.heap.size w w' := by
  have HDP := Lib.hid (fun W (hb : Below w.heap.size w W) => depth_prog e W tv xv hd (ExOk.below hb (Nat.le_refl _) _ _ _ hok))
  have HSM := Lib.hid (fun W (hb : Below w.heap.size w W) => smallExpr_prog e W tv xv (ExOk.below hb (Nat.le_refl _) _ _ _ hok))
  have HB := Lib.hid (show shB e = (decide (e.dep ≤ 64) && smEx e) from rfl)
  obtain ⟨D, hD⟩ : ∃ d, d = e.dep := ⟨_, rfl⟩
  obtain ⟨B, hB⟩ : ∃ d, d = smEx e := ⟨_, rfl⟩
  obtain ⟨R, hR⟩ : ∃ d, d = shB e := ⟨_, rfl⟩
  obtain ⟨ta, tc, rfl, _, _⟩ := hok.ty.shape
  obtain ⟨a, c, rfl, _, _, _⟩ := hok.shape
  rw [← hD] at HDP HB hd
  rw [← hB] at HSM HB
  rw [← hR] at HB
  rw [← hR]
  clear hD hB hR hok
  unfold exV at HDP HSM ⊢
  obtain ⟨w1, hw1⟩ : ∃ w1 : World, w1 = w.alloc (.cells #[.int .i64 e.op, .int .i64 e.t.form, .int .i64 e.t.num, .string e.t.name, .slice ta e.t.k tc, .int .i32 e.i, .string e.s, .slice a e.k c] 36) := ⟨_, rfl⟩
  have hb1 : Below w.heap.size w w1 := by rw [hw1]; exact (Below.refl _ _).alloc (Nat.le_refl _) _
  have HZ := Lib.hid (show w1.heap[w.heap.size]? = some (.cells #[.int .i64 e.op, .int .i64 e.t.form, .int .i64 e.t.num, .string e.t.name, .slice ta e.t.k tc, .int .i32 e.i, .string e.s, .slice a e.k c] 36 (0, 0)) from by rw [hw1]; exact heap_alloc_new w _)
  have HW1 := Lib.hid hw1
  have HB1 := Lib.hid hb1
  clear hw1 hb1
  by_cases h64 : D ≤ 64
  · obtain rfl : R = B := by rw [HB.out]; simp [h64]
    go_enter Try.func22, Try.ntmps22
    go_wp2_with fail
    rw [← HW1.out]
    refine (HDP.out _ HB1.out).mono ?_
    rintro en w2 ⟨rfl, hb2⟩
    have c0 := cell_below hb2 (Nat.le_refl _) (rowC HZ.out 0 _)
    have c1 := cell_below hb2 (Nat.le_refl _) (rowC HZ.out 1 _)
    have c2 := cell_below hb2 (Nat.le_refl _) (rowC HZ.out 2 _)
    have c3 := cell_below hb2 (Nat.le_refl _) (rowC HZ.out 3 _)
    have c4 := cell_below hb2 (Nat.le_refl _) (rowC HZ.out 4 _)
    have c5 := cell_below hb2 (Nat.le_refl _) (rowC HZ.out 5 _)
    have c6 := cell_below hb2 (Nat.le_refl _) (rowC HZ.out 6 _)
    have c7 := cell_below hb2 (Nat.le_refl _) (rowC HZ.out 7 _)
    have HB2 := Lib.hid (HB1.out.trans (hb2.mono HB1.out.size))
    clear hb2
    go_wp2_with fail
    refine (HSM.out _ HB2.out).mono ?_
    rintro en w4 ⟨rfl, hb4⟩
    have HB4 := Lib.hid (HB2.out.trans (hb4.mono HB2.out.size))
    clear hb4
    go_wp2_with fail
    go_ret
    exact ⟨rfl, HB4.out⟩
  · obtain rfl : R = false := by rw [HB.out]; simp [h64]
    go_enter Try.func22, Try.ntmps22
    go_wp2_with fail
    rw [← HW1.out]
    refine (HDP.out _ HB1.out).mono ?_
    rintro en w2 ⟨rfl, hb2⟩
    have HB2 := Lib.hid (HB1.out.trans (hb2.mono HB1.out.size))
    clear hb2
    go_wp2_with fail
    go_ret
    exact ⟨rfl, HB2.out⟩
theorem not_shallow (w : World) (e : Ex) (tv xv : Value) (hd : e.dep ≤ 1000000) (hok : ExOk w e tv xv) :
    Calls Try.prog 64 #[exV e tv xv] w fun en w' => en = .returned (.bool (!shB e)) ∧ Below w.heap.size w w' := by
  have H := Lib.hid (fun W (hb : Below w.heap.size w W) => shallow_prog e W tv xv hd (ExOk.below hb (Nat.le_refl _) _ _ _ hok))
  obtain ⟨B, hB⟩ : ∃ d, d = shB e := ⟨_, rfl⟩
  rw [← hB] at H ⊢
  clear hB hok hd
  unfold exV at H ⊢
  go_enter Try.func64, Try.ntmps64
  go_wp2_with fail
  refine (H.out _ ((Below.refl _ _).alloc (Nat.le_refl _) _)).mono ?_
  rintro en w2 ⟨rfl, hb2⟩
  have HB2 := Lib.hid (((Below.refl _ w).alloc (Nat.le_refl _) _).trans (hb2.mono (by simp)))
  clear hb2
  go_wp2_with fail
  go_ret
  exact ⟨rfl, HB2.out⟩
end Go.Proofs.Ytipcnkgojonmjaa
