/- Fold: the reference's constant. (Printed by gen_fd11.py.) -/
import Derived.Test.YtiikeilpgajmfaaFd10
namespace Go.Proofs.Ytiikeilpgajmfaa
open Go.RowKit Go.Waf
set_option maxRecDepth 100000
set_option linter.unusedVariables false
set_option linter.unusedSimpArgs false

theorem rspan_any (a b : Int) (w : World) : Calls Try.prog 51 #[.int .i32 a, .int .i32 b] w fun e w' => e = .returned (.tuple #[.int .i32 (spI a b), .bool (spB a b)]) ∧ w = w' := by
  unfold spI spB
  by_cases h : 0 ≤ a ∧ a < 32 ∧ 0 ≤ b ∧ b < 32
  · rw [if_pos h, decide_eq_true h]; exact rspan_yes a b w h.1 h.2.1 h.2.2.1 h.2.2.2
  · rw [if_neg h, decide_eq_false h]; exact rspan_no a b w h

set_option maxHeartbeats 800000 in
theorem const_set (w : World) (f n i : Int) (nm s : ByteArray) (tk tc k xc : Nat) (ta xa : Option Addr) (x : Nat → Ex) (hx : ExsAt w xa k x) (h1 : k ≤ xc) (h2 : xc ≤ 9223372036854775807) (hf : ∀ j, j < k → elemF (x j)) : Calls Try.prog 31 #[.agg #[.int .i64 24, .int .i64 f, .int .i64 n, .string nm, .slice ta tk tc, .int .i32 i, .string s, .slice xa k xc]] w fun en w' => en = .returned (.tuple #[.int .i32 (setV x k), .bool (setB x k)]) ∧ Below w.heap.size w w' := by
  obtain ⟨w1, hw1⟩ : ∃ w1 : World, w1 = w.alloc (.cells #[.int .i64 24, .int .i64 f, .int .i64 n, .string nm, .slice ta tk tc, .int .i32 i, .string s, .slice xa k xc] 27) := ⟨_, rfl⟩
  have hs1 : w1.heap.size = w.heap.size + 1 := by rw [hw1]; simp
  have HE := Lib.hid (show w1.heap[w.heap.size]? = some (.cells #[.int .i64 24, .int .i64 f, .int .i64 n, .string nm, .slice ta tk tc, .int .i32 i, .string s, .slice xa k xc] 27 (0, 0)) from by rw [hw1]; exact heap_alloc_new w _)
  have hb01 : Below w.heap.size w w1 := by rw [hw1]; exact (Below.refl _ _).alloc (Nat.le_refl _) _
  have HB01 := Lib.hid hb01
  have HX := Lib.hid (hx.below hb01 (Nat.le_refl _))
  have HW1 := Lib.hid hw1
  have HS1 := Lib.hid hs1
  have HE7 := Lib.hid ((cell_of_row w1 _ 7 _ _ _ HE.out).trans (rfl : _ = some (Value.slice xa k xc)))
  have HE0 := Lib.hid ((cell_of_row w1 _ 0 _ _ _ HE.out).trans (rfl : _ = some (Value.int .i64 24)))
  clear hb01 hw1 hs1 hx
  have HF := Lib.hid hf
  clear hf
  go_enter Try.func31, Try.ntmps31
  go_wp2_with fail
  rw [← HW1.out]
  go_loopw [4, 5] (fun s z wr => ∃ j : Nat, j ≤ k ∧ z = .int .i64 (j : Int) ∧ s = .int .i32 (setI x j) ∧ (∀ i, i < j → (!elB (x i)) = false) ∧ Below w1.heap.size w1 wr) (fun _ z _ => k - (intOf z).toNat)
  case atStart => exact ⟨0, by omega, rfl, rfl, fun i hi => absurd hi (by omega), Below.refl _ _⟩
  case round =>
    obtain ⟨j, hj, rfl, rfl, hno, hb⟩ := hrel
    obtain ⟨wo, rfl⟩ : ∃ wo : World, wo = wr := ⟨_, rfl⟩
    have c7 : wo.cell? ⟨w.heap.size, 7, none⟩ = some (.slice xa k xc) := cell_below hb (Nat.le_refl _) HE7.out
    by_cases hlt : j < k
    · obtain ⟨b, o, rfl, hc⟩ := HX.out (by omega)
      obtain ⟨tu, xu, hok, hcc⟩ := hc j hlt
      obtain ⟨ya, yc, rfl, y1, y2, hy⟩ := hok.shape
      have d7 := (hcc.below hb (Nat.le_refl _)).c7
      have hk : 0 < (x j).k := by rcases HF.out j hlt with h | h <;> omega
      have hk2 : (x j).k ≤ 2 := by rcases HF.out j hlt with h | h <;> omega
      obtain ⟨b2, o2, rfl, hyc⟩ := hy hk
      obtain ⟨_, _, _, hy0⟩ := hyc 0 hk
      obtain ⟨_, _, _, hy1⟩ := hyc ((x j).k - 1) (by omega)
      have e0 := (hy0.below hb (Nat.le_refl _)).c5
      have e1 := (hy1.below hb (Nat.le_refl _)).c5
      rw [Nat.zero_mul, Nat.add_zero] at e0
      have HSI := Lib.hid (show setI x (j + 1) = bits .or .i32 (setI x j) (spI ((x j).x 0).i ((x j).x ((x j).k - 1)).i) from rfl)
      have HT := Lib.hid (show elB (x j) = spB ((x j).x 0).i ((x j).x ((x j).k - 1)).i from rfl)
      obtain ⟨A, hA⟩ : ∃ A, A = ((x j).x 0).i := ⟨_, rfl⟩
      obtain ⟨B, hB⟩ : ∃ B, B = ((x j).x ((x j).k - 1)).i := ⟨_, rfl⟩
      rw [← hA, ← hB] at HSI HT
      rw [← hA] at e0
      rw [← hB] at e1
      obtain ⟨ek, hek⟩ : ∃ ek, ek = (x j).k := ⟨_, rfl⟩
      rw [← hek] at d7 y1 hk hk2 e1
      obtain ⟨S, hS⟩ : ∃ S, S = setI x j := ⟨_, rfl⟩
      rw [← hS] at HSI ⊢
      obtain ⟨t, ht⟩ : ∃ t, t = spB A B := ⟨_, rfl⟩
      rw [← ht] at HT
      have HSP := Lib.hid (fun W => rspan_any A B W)
      rw [← ht] at HSP
      have HNO := Lib.hid hno
      have HB := Lib.hid hb
      clear hc hok hcc hy hyc hy0 hy1 hno hb hA hB hek hS ht
      have h12 : ek = 1 ∨ ek = 2 := by omega
      rcases h12 with rfl | rfl
      · have e1' : wo.cell? ⟨b2, o2 + 5, none⟩ = some (.int .i32 B) := e1
        have hAB : A = B := by rw [e0] at e1'; simpa using e1'
        subst hAB
        clear e1 e1'
        have e1 : wo.cell? ⟨b2, o2 + 0 * 8 + 5, none⟩ = some (.int .i32 A) := by simpa using e0
        cases t
        all_goals
          go_wp2_with fail
          go_quiet ((go_at_call 51; with_reducible exact quiet_left (HSP.out _)))
          go_wp2_with fail
        · have HT2 := Lib.hid (show setB x k = false from by unfold setB; rw [anyB_true hlt (by rw [HT.out]; rfl)]; rfl)
          go_ret2
          exact ⟨by rw [setV_false HT2.out, HT2.out]; rfl, HB01.out.trans ((below_drewN HB.out _).mono (by rw [HS1.out]; omega))⟩
        · go_roundw
          case rel => exact ⟨j + 1, by omega, by go_num, by rw [HSI.out], fun i hi => by
            rcases Nat.lt_succ_iff_lt_or_eq.1 hi with h | h
            · exact HNO.out i h
            · rw [h, HT.out]; rfl, below_drewN HB.out _⟩
          case measure => simp [intOf]; omega
      · have e2' : wo.cell? ⟨b2, o2 + 1 * 8 + 5, none⟩ = some (.int .i32 B) := e1
        clear e1
        cases t
        all_goals
          go_wp2_with fail
          go_quiet ((go_at_call 51; with_reducible exact quiet_left (HSP.out _)))
          go_wp2_with fail
        · have HT2 := Lib.hid (show setB x k = false from by unfold setB; rw [anyB_true hlt (by rw [HT.out]; rfl)]; rfl)
          go_ret2
          exact ⟨by rw [setV_false HT2.out, HT2.out]; rfl, HB01.out.trans ((below_drewN HB.out _).mono (by rw [HS1.out]; omega))⟩
        · go_roundw
          case rel => exact ⟨j + 1, by omega, by go_num, by rw [HSI.out], fun i hi => by
            rcases Nat.lt_succ_iff_lt_or_eq.1 hi with h | h
            · exact HNO.out i h
            · rw [h, HT.out]; rfl, below_drewN HB.out _⟩
          case measure => simp [intOf]; omega
    · obtain rfl : j = k := by omega
      have HP := Lib.hid (show setB x j = true from by unfold setB; rw [anyB_false hno]; rfl)
      have HB := Lib.hid (HB01.out.trans (hb.mono (by rw [HS1.out]; omega)))
      clear hno hb
      go_wp2_with fail
      go_ret2
      exact ⟨by rw [setV_true HP.out, HP.out]; rfl, HB.out⟩

set_option maxHeartbeats 800000 in
theorem const_one (w : World) (op f n i : Int) (nm s : ByteArray) (tk tc xc b o : Nat) (ta : Option Addr) (x : Nat → Ex) (hx : ExsAt w (some ⟨b, o, none⟩) 1 x) (h1 : 1 ≤ xc) (h2 : xc ≤ 9223372036854775807) (hop : isUn op) (hfi : -2147483648 ≤ (x 0).i ∧ (x 0).i ≤ 2147483647) : Calls Try.prog 31 #[.agg #[.int .i64 op, .int .i64 f, .int .i64 n, .string nm, .slice ta tk tc, .int .i32 i, .string s, .slice (some ⟨b, o, none⟩) 1 xc]] w fun en w' => en = .returned (.tuple #[.int .i32 (unI op (x 0).t.form (x 0).i), .bool (unB op (x 0).i)]) ∧ Below w.heap.size w w' := by
  obtain ⟨w1, hw1⟩ : ∃ w1 : World, w1 = w.alloc (.cells #[.int .i64 op, .int .i64 f, .int .i64 n, .string nm, .slice ta tk tc, .int .i32 i, .string s, .slice (some ⟨b, o, none⟩) 1 xc] 27) := ⟨_, rfl⟩
  have hs1 : w1.heap.size = w.heap.size + 1 := by rw [hw1]; simp
  have HE := Lib.hid (show w1.heap[w.heap.size]? = some (.cells #[.int .i64 op, .int .i64 f, .int .i64 n, .string nm, .slice ta tk tc, .int .i32 i, .string s, .slice (some ⟨b, o, none⟩) 1 xc] 27 (0, 0)) from by rw [hw1]; exact heap_alloc_new w _)
  have hb01 : Below w.heap.size w w1 := by rw [hw1]; exact (Below.refl _ _).alloc (Nat.le_refl _) _
  have HB01 := Lib.hid hb01
  have HX := Lib.hid (hx.below hb01 (Nat.le_refl _))
  have HW1 := Lib.hid hw1
  have HS1 := Lib.hid hs1
  have HE7 := Lib.hid ((cell_of_row w1 _ 7 _ _ _ HE.out).trans (rfl : _ = some (Value.slice (some ⟨b, o, none⟩) 1 xc)))
  have HE0 := Lib.hid ((cell_of_row w1 _ 0 _ _ _ HE.out).trans (rfl : _ = some (Value.int .i64 op)))
  clear hb01 hw1 hs1 hx
  obtain ⟨b', o', hbo, hcc⟩ := HX.out (by decide)
  cases hbo
  obtain ⟨_, _, _, hc0⟩ := hcc 0 (by decide)
  have e5 := hc0.c5
  have e1 := hc0.c1
  rw [Nat.zero_mul, Nat.add_zero] at e5 e1
  obtain ⟨A, hA⟩ : ∃ A, A = (x 0).i := ⟨_, rfl⟩
  obtain ⟨G, hG⟩ : ∃ G, G = (x 0).t.form := ⟨_, rfl⟩
  rw [← hA] at e5 hfi ⊢
  rw [← hG] at e1 ⊢
  have c7 := HE7.out
  have c0 := HE0.out
  have ho24 : ¬ op = 24 := by unfold isUn at hop; omega
  have HC := Lib.hid (fun W => unary_ref W op G A hfi hop)
  obtain ⟨V, hV⟩ : ∃ V, V = unI op G A := ⟨_, rfl⟩
  obtain ⟨T, hT⟩ : ∃ T, T = unB op A := ⟨_, rfl⟩
  rw [← hV, ← hT] at HC
  rw [← hV, ← hT]
  clear hcc hc0 hA hG hop hfi hV hT
  rw [HW1.out] at e5 e1 c7 c0
  go_enter Try.func31, Try.ntmps31
  go_wp2_with fail
  go_quiet ((go_at_call 53; with_reducible exact quiet_left (HC.out _)))
  go_wp2_with fail
  go_ret2
  exact ⟨rfl, below_drewN (HW1.out ▸ HB01.out) _⟩

set_option maxHeartbeats 800000 in
theorem const_two (w : World) (op f n i : Int) (nm s : ByteArray) (tk tc xc b o : Nat) (ta : Option Addr) (x : Nat → Ex) (hx : ExsAt w (some ⟨b, o, none⟩) 2 x) (h1 : 2 ≤ xc) (h2 : xc ≤ 9223372036854775807) (hop : isBi op) (hfi : -2147483648 ≤ (x 0).i ∧ (x 0).i ≤ 2147483647) (hfi1 : -2147483648 ≤ (x 1).i ∧ (x 1).i ≤ 2147483647) : Calls Try.prog 31 #[.agg #[.int .i64 op, .int .i64 f, .int .i64 n, .string nm, .slice ta tk tc, .int .i32 i, .string s, .slice (some ⟨b, o, none⟩) 2 xc]] w fun en w' => en = .returned (.tuple #[.int .i32 (biI op (x 0).t.form (x 0).i (x 1).i), .bool (biB op (x 0).t.form (x 1).i)]) ∧ Below w.heap.size w w' := by
  obtain ⟨w1, hw1⟩ : ∃ w1 : World, w1 = w.alloc (.cells #[.int .i64 op, .int .i64 f, .int .i64 n, .string nm, .slice ta tk tc, .int .i32 i, .string s, .slice (some ⟨b, o, none⟩) 2 xc] 27) := ⟨_, rfl⟩
  have hs1 : w1.heap.size = w.heap.size + 1 := by rw [hw1]; simp
  have HE := Lib.hid (show w1.heap[w.heap.size]? = some (.cells #[.int .i64 op, .int .i64 f, .int .i64 n, .string nm, .slice ta tk tc, .int .i32 i, .string s, .slice (some ⟨b, o, none⟩) 2 xc] 27 (0, 0)) from by rw [hw1]; exact heap_alloc_new w _)
  have hb01 : Below w.heap.size w w1 := by rw [hw1]; exact (Below.refl _ _).alloc (Nat.le_refl _) _
  have HB01 := Lib.hid hb01
  have HX := Lib.hid (hx.below hb01 (Nat.le_refl _))
  have HW1 := Lib.hid hw1
  have HS1 := Lib.hid hs1
  have HE7 := Lib.hid ((cell_of_row w1 _ 7 _ _ _ HE.out).trans (rfl : _ = some (Value.slice (some ⟨b, o, none⟩) 2 xc)))
  have HE0 := Lib.hid ((cell_of_row w1 _ 0 _ _ _ HE.out).trans (rfl : _ = some (Value.int .i64 op)))
  clear hb01 hw1 hs1 hx
  obtain ⟨b', o', hbo, hcc⟩ := HX.out (by decide)
  cases hbo
  obtain ⟨_, _, _, hc0⟩ := hcc 0 (by decide)
  have e5 := hc0.c5
  have e1 := hc0.c1
  rw [Nat.zero_mul, Nat.add_zero] at e5 e1
  obtain ⟨A, hA⟩ : ∃ A, A = (x 0).i := ⟨_, rfl⟩
  obtain ⟨G, hG⟩ : ∃ G, G = (x 0).t.form := ⟨_, rfl⟩
  rw [← hA] at e5 hfi ⊢
  rw [← hG] at e1 ⊢
  have c7 := HE7.out
  have c0 := HE0.out
  have ho24 : ¬ op = 24 := by unfold isBi at hop; omega
  obtain ⟨_, _, _, hc1⟩ := hcc 1 (by decide)
  have e15 := hc1.c5
  obtain ⟨B, hB⟩ : ∃ B, B = (x 1).i := ⟨_, rfl⟩
  rw [← hB] at e15 hfi1 ⊢
  have HC := Lib.hid (fun W => binary_ref W op G A B hfi hfi1 hop)
  obtain ⟨V, hV⟩ : ∃ V, V = biI op G A B := ⟨_, rfl⟩
  obtain ⟨T, hT⟩ : ∃ T, T = biB op G B := ⟨_, rfl⟩
  rw [← hV, ← hT] at HC
  rw [← hV, ← hT]
  clear hcc hc0 hA hG hop hfi hV hT hc1 hB hfi1
  rw [HW1.out] at e5 e1 c7 c0 e15
  go_enter Try.func31, Try.ntmps31
  go_wp2_with fail
  go_quiet ((go_at_call 52; with_reducible exact quiet_left (HC.out _)))
  go_wp2_with fail
  go_ret2
  exact ⟨rfl, below_drewN (HW1.out ▸ HB01.out) _⟩
end Go.Proofs.Ytiikeilpgajmfaa
