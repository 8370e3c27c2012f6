/- Fold: two operands, by the program. (Printed by gen_fd5.py.) -/
import Derived.Test.YtiikeilpgajmfaaFd5
namespace Go.Proofs.Ytiikeilpgajmfaa
open Go.RowKit Go.Waf
set_option maxRecDepth 100000
set_option linter.unusedVariables false
set_option linter.unusedSimpArgs false

set_option maxHeartbeats 6400000 in
theorem two_9 (w : World) (f a b o1 n1 o2 f2 n2 : Int) (nm1 s1 nm2 s2 : ByteArray) (tv1 xv1 tv2 xv2 : Value) (ha : -2147483648 ≤ a ∧ a ≤ 2147483647) (hb : -2147483648 ≤ b ∧ b ≤ 2147483647) : Calls Try.prog 27 #[.int .i64 9, .agg #[.int .i64 o1, .int .i64 f, .int .i64 n1, .string nm1, tv1, .int .i32 a, .string s1, xv1], .agg #[.int .i64 o2, .int .i64 f2, .int .i64 n2, .string nm2, tv2, .int .i32 b, .string s2, xv2]] w fun en w' => en = .returned (.tuple #[.int .i32 (biI 9 f a b), .bool (biB 9 f b)]) ∧ Below w.heap.size w w' := by
  obtain ⟨V, hV⟩ : ∃ V, V = biI 9 f a b := ⟨_, rfl⟩
  obtain ⟨T, hT⟩ : ∃ T, T = biB 9 f b := ⟨_, rfl⟩
  obtain ⟨F, hF⟩ : ∃ F, F = f := ⟨_, rfl⟩
  have hD : Below w.heap.size w ((w.alloc (.cells #[.int .i64 o1, .int .i64 f, .int .i64 n1, .string nm1, tv1, .int .i32 a, .string s1, xv1] 27)).alloc (.cells #[.int .i64 o2, .int .i64 f2, .int .i64 n2, .string nm2, tv2, .int .i32 b, .string s2, xv2] 27)) := ((Below.refl _ _).alloc (Nat.le_refl _) _).alloc (by simp) _
  rw [← hV, ← hT]
  all_goals by_cases h4 : f = 4
  all_goals
    simp [biI, h4] at hV
    simp [biB, h4] at hT
    clear hF
    try subst h4
    have HV := Lib.hid hV
    have HT := Lib.hid hT
    have HD := Lib.hid hD
    clear hV hT hD
    go_enter Try.func27, Try.ntmps27
    go_wp2_with fail
    go_quiet (fail)
    go_wp2_with (first | (go_at_call 38; refine (sets_any _ _ _ _ (by unfold isBi; omega)).mono ?_; rintro en w2 ⟨rfl, rfl⟩) | (go_at_call 37; refine (truth_any _ _).mono ?_; rintro en w2 ⟨rfl, rfl⟩) | (go_at_call 47; refine (compare_any _ _ F _ _ (by omega)).mono ?_; rintro en w2 ⟨rfl, rfl⟩) | (go_at_call 39; refine (add_any _ _ _).mono ?_; rintro en w2 ⟨rfl, rfl⟩) | (go_at_call 36; refine (sub_any _ _ _).mono ?_; rintro en w2 ⟨rfl, rfl⟩) | (go_at_call 40; refine (mul_any _ _ _).mono ?_; rintro en w2 ⟨rfl, rfl⟩) | (go_at_call 41; refine (div_yes _ _ _ (by omega) (by omega) (by omega)).mono ?_; rintro en w2 ⟨rfl, rfl⟩) | (go_at_call 41; refine (div_no _ _ _ (by omega)).mono ?_; rintro en w2 ⟨rfl, rfl⟩) | (go_at_call 42; refine (mod_yes _ _ _ (by omega) (by omega)).mono ?_; rintro en w2 ⟨rfl, rfl⟩) | (go_at_call 42; refine (mod_no _ _ _ (by omega)).mono ?_; rintro en w2 ⟨rfl, rfl⟩) | (go_at_call 43; refine (has_any _ _ _).mono ?_; rintro en w2 ⟨rfl, rfl⟩) | (go_at_call 44; refine (lsl_any _ _ _).mono ?_; rintro en w2 ⟨rfl, rfl⟩) | (go_at_call 45; refine (asr_any _ _ _).mono ?_; rintro en w2 ⟨rfl, rfl⟩) | (go_at_call 46; refine (ror_any _ _ _).mono ?_; rintro en w2 ⟨rfl, rfl⟩))
    all_goals (try go_ret2)
    all_goals exact ⟨by rw [HV.out, HT.out]; first | rfl | (rw [show (b != 0) = true from by simp [hb0]]; rfl) | (rw [show (b != 0) = true from by simp [hb0], show (a != 0) = true from by simp [ha0]]; rfl) | (simp [biI]; rfl), below_drewN HD.out _⟩
set_option maxHeartbeats 6400000 in
theorem two_10 (w : World) (f a b o1 n1 o2 f2 n2 : Int) (nm1 s1 nm2 s2 : ByteArray) (tv1 xv1 tv2 xv2 : Value) (ha : -2147483648 ≤ a ∧ a ≤ 2147483647) (hb : -2147483648 ≤ b ∧ b ≤ 2147483647) : Calls Try.prog 27 #[.int .i64 10, .agg #[.int .i64 o1, .int .i64 f, .int .i64 n1, .string nm1, tv1, .int .i32 a, .string s1, xv1], .agg #[.int .i64 o2, .int .i64 f2, .int .i64 n2, .string nm2, tv2, .int .i32 b, .string s2, xv2]] w fun en w' => en = .returned (.tuple #[.int .i32 (biI 10 f a b), .bool (biB 10 f b)]) ∧ Below w.heap.size w w' := by
  obtain ⟨V, hV⟩ : ∃ V, V = biI 10 f a b := ⟨_, rfl⟩
  obtain ⟨T, hT⟩ : ∃ T, T = biB 10 f b := ⟨_, rfl⟩
  obtain ⟨F, hF⟩ : ∃ F, F = f := ⟨_, rfl⟩
  have hD : Below w.heap.size w ((w.alloc (.cells #[.int .i64 o1, .int .i64 f, .int .i64 n1, .string nm1, tv1, .int .i32 a, .string s1, xv1] 27)).alloc (.cells #[.int .i64 o2, .int .i64 f2, .int .i64 n2, .string nm2, tv2, .int .i32 b, .string s2, xv2] 27)) := ((Below.refl _ _).alloc (Nat.le_refl _) _).alloc (by simp) _
  rw [← hV, ← hT]
  all_goals by_cases h4 : f = 4
  all_goals
    simp [biI, h4] at hV
    simp [biB, h4] at hT
    clear hF
    try subst h4
    have HV := Lib.hid hV
    have HT := Lib.hid hT
    have HD := Lib.hid hD
    clear hV hT hD
    go_enter Try.func27, Try.ntmps27
    go_wp2_with fail
    go_quiet (fail)
    go_wp2_with (first | (go_at_call 38; refine (sets_any _ _ _ _ (by unfold isBi; omega)).mono ?_; rintro en w2 ⟨rfl, rfl⟩) | (go_at_call 37; refine (truth_any _ _).mono ?_; rintro en w2 ⟨rfl, rfl⟩) | (go_at_call 47; refine (compare_any _ _ F _ _ (by omega)).mono ?_; rintro en w2 ⟨rfl, rfl⟩) | (go_at_call 39; refine (add_any _ _ _).mono ?_; rintro en w2 ⟨rfl, rfl⟩) | (go_at_call 36; refine (sub_any _ _ _).mono ?_; rintro en w2 ⟨rfl, rfl⟩) | (go_at_call 40; refine (mul_any _ _ _).mono ?_; rintro en w2 ⟨rfl, rfl⟩) | (go_at_call 41; refine (div_yes _ _ _ (by omega) (by omega) (by omega)).mono ?_; rintro en w2 ⟨rfl, rfl⟩) | (go_at_call 41; refine (div_no _ _ _ (by omega)).mono ?_; rintro en w2 ⟨rfl, rfl⟩) | (go_at_call 42; refine (mod_yes _ _ _ (by omega) (by omega)).mono ?_; rintro en w2 ⟨rfl, rfl⟩) | (go_at_call 42; refine (mod_no _ _ _ (by omega)).mono ?_; rintro en w2 ⟨rfl, rfl⟩) | (go_at_call 43; refine (has_any _ _ _).mono ?_; rintro en w2 ⟨rfl, rfl⟩) | (go_at_call 44; refine (lsl_any _ _ _).mono ?_; rintro en w2 ⟨rfl, rfl⟩) | (go_at_call 45; refine (asr_any _ _ _).mono ?_; rintro en w2 ⟨rfl, rfl⟩) | (go_at_call 46; refine (ror_any _ _ _).mono ?_; rintro en w2 ⟨rfl, rfl⟩))
    all_goals (try go_ret2)
    all_goals exact ⟨by rw [HV.out, HT.out]; first | rfl | (rw [show (b != 0) = true from by simp [hb0]]; rfl) | (rw [show (b != 0) = true from by simp [hb0], show (a != 0) = true from by simp [ha0]]; rfl) | (simp [biI]; rfl), below_drewN HD.out _⟩
set_option maxHeartbeats 6400000 in
theorem two_11 (w : World) (f a b o1 n1 o2 f2 n2 : Int) (nm1 s1 nm2 s2 : ByteArray) (tv1 xv1 tv2 xv2 : Value) (ha : -2147483648 ≤ a ∧ a ≤ 2147483647) (hb : -2147483648 ≤ b ∧ b ≤ 2147483647) : Calls Try.prog 27 #[.int .i64 11, .agg #[.int .i64 o1, .int .i64 f, .int .i64 n1, .string nm1, tv1, .int .i32 a, .string s1, xv1], .agg #[.int .i64 o2, .int .i64 f2, .int .i64 n2, .string nm2, tv2, .int .i32 b, .string s2, xv2]] w fun en w' => en = .returned (.tuple #[.int .i32 (biI 11 f a b), .bool (biB 11 f b)]) ∧ Below w.heap.size w w' := by
  obtain ⟨V, hV⟩ : ∃ V, V = biI 11 f a b := ⟨_, rfl⟩
  obtain ⟨T, hT⟩ : ∃ T, T = biB 11 f b := ⟨_, rfl⟩
  obtain ⟨F, hF⟩ : ∃ F, F = f := ⟨_, rfl⟩
  have hD : Below w.heap.size w ((w.alloc (.cells #[.int .i64 o1, .int .i64 f, .int .i64 n1, .string nm1, tv1, .int .i32 a, .string s1, xv1] 27)).alloc (.cells #[.int .i64 o2, .int .i64 f2, .int .i64 n2, .string nm2, tv2, .int .i32 b, .string s2, xv2] 27)) := ((Below.refl _ _).alloc (Nat.le_refl _) _).alloc (by simp) _
  rw [← hV, ← hT]
  all_goals by_cases h4 : f = 4
  all_goals
    simp [biI, h4] at hV
    simp [biB, h4] at hT
    clear hF
    try subst h4
    have HV := Lib.hid hV
    have HT := Lib.hid hT
    have HD := Lib.hid hD
    clear hV hT hD
    go_enter Try.func27, Try.ntmps27
    go_wp2_with fail
    go_quiet (fail)
    go_wp2_with (first | (go_at_call 38; refine (sets_any _ _ _ _ (by unfold isBi; omega)).mono ?_; rintro en w2 ⟨rfl, rfl⟩) | (go_at_call 37; refine (truth_any _ _).mono ?_; rintro en w2 ⟨rfl, rfl⟩) | (go_at_call 47; refine (compare_any _ _ F _ _ (by omega)).mono ?_; rintro en w2 ⟨rfl, rfl⟩) | (go_at_call 39; refine (add_any _ _ _).mono ?_; rintro en w2 ⟨rfl, rfl⟩) | (go_at_call 36; refine (sub_any _ _ _).mono ?_; rintro en w2 ⟨rfl, rfl⟩) | (go_at_call 40; refine (mul_any _ _ _).mono ?_; rintro en w2 ⟨rfl, rfl⟩) | (go_at_call 41; refine (div_yes _ _ _ (by omega) (by omega) (by omega)).mono ?_; rintro en w2 ⟨rfl, rfl⟩) | (go_at_call 41; refine (div_no _ _ _ (by omega)).mono ?_; rintro en w2 ⟨rfl, rfl⟩) | (go_at_call 42; refine (mod_yes _ _ _ (by omega) (by omega)).mono ?_; rintro en w2 ⟨rfl, rfl⟩) | (go_at_call 42; refine (mod_no _ _ _ (by omega)).mono ?_; rintro en w2 ⟨rfl, rfl⟩) | (go_at_call 43; refine (has_any _ _ _).mono ?_; rintro en w2 ⟨rfl, rfl⟩) | (go_at_call 44; refine (lsl_any _ _ _).mono ?_; rintro en w2 ⟨rfl, rfl⟩) | (go_at_call 45; refine (asr_any _ _ _).mono ?_; rintro en w2 ⟨rfl, rfl⟩) | (go_at_call 46; refine (ror_any _ _ _).mono ?_; rintro en w2 ⟨rfl, rfl⟩))
    all_goals (try go_ret2)
    all_goals exact ⟨by rw [HV.out, HT.out]; first | rfl | (rw [show (b != 0) = true from by simp [hb0]]; rfl) | (rw [show (b != 0) = true from by simp [hb0], show (a != 0) = true from by simp [ha0]]; rfl) | (simp [biI]; rfl), below_drewN HD.out _⟩
set_option maxHeartbeats 6400000 in
theorem two_12 (w : World) (f a b o1 n1 o2 f2 n2 : Int) (nm1 s1 nm2 s2 : ByteArray) (tv1 xv1 tv2 xv2 : Value) (ha : -2147483648 ≤ a ∧ a ≤ 2147483647) (hb : -2147483648 ≤ b ∧ b ≤ 2147483647) : Calls Try.prog 27 #[.int .i64 12, .agg #[.int .i64 o1, .int .i64 f, .int .i64 n1, .string nm1, tv1, .int .i32 a, .string s1, xv1], .agg #[.int .i64 o2, .int .i64 f2, .int .i64 n2, .string nm2, tv2, .int .i32 b, .string s2, xv2]] w fun en w' => en = .returned (.tuple #[.int .i32 (biI 12 f a b), .bool (biB 12 f b)]) ∧ Below w.heap.size w w' := by
  obtain ⟨V, hV⟩ : ∃ V, V = biI 12 f a b := ⟨_, rfl⟩
  obtain ⟨T, hT⟩ : ∃ T, T = biB 12 f b := ⟨_, rfl⟩
  obtain ⟨F, hF⟩ : ∃ F, F = f := ⟨_, rfl⟩
  have hD : Below w.heap.size w ((w.alloc (.cells #[.int .i64 o1, .int .i64 f, .int .i64 n1, .string nm1, tv1, .int .i32 a, .string s1, xv1] 27)).alloc (.cells #[.int .i64 o2, .int .i64 f2, .int .i64 n2, .string nm2, tv2, .int .i32 b, .string s2, xv2] 27)) := ((Below.refl _ _).alloc (Nat.le_refl _) _).alloc (by simp) _
  rw [← hV, ← hT]
  all_goals by_cases h4 : f = 4
  all_goals by_cases hb1 : 1 ≤ b
  all_goals
    simp [biI, h4, hb1] at hV
    simp [biB, h4, hb1] at hT
    clear hF
    try subst h4
    have HV := Lib.hid hV
    have HT := Lib.hid hT
    have HD := Lib.hid hD
    clear hV hT hD
    go_enter Try.func27, Try.ntmps27
    go_wp2_with fail
    go_quiet (fail)
    go_wp2_with (first | (go_at_call 38; refine (sets_any _ _ _ _ (by unfold isBi; omega)).mono ?_; rintro en w2 ⟨rfl, rfl⟩) | (go_at_call 37; refine (truth_any _ _).mono ?_; rintro en w2 ⟨rfl, rfl⟩) | (go_at_call 47; refine (compare_any _ _ F _ _ (by omega)).mono ?_; rintro en w2 ⟨rfl, rfl⟩) | (go_at_call 39; refine (add_any _ _ _).mono ?_; rintro en w2 ⟨rfl, rfl⟩) | (go_at_call 36; refine (sub_any _ _ _).mono ?_; rintro en w2 ⟨rfl, rfl⟩) | (go_at_call 40; refine (mul_any _ _ _).mono ?_; rintro en w2 ⟨rfl, rfl⟩) | (go_at_call 41; refine (div_yes _ _ _ (by omega) (by omega) (by omega)).mono ?_; rintro en w2 ⟨rfl, rfl⟩) | (go_at_call 41; refine (div_no _ _ _ (by omega)).mono ?_; rintro en w2 ⟨rfl, rfl⟩) | (go_at_call 42; refine (mod_yes _ _ _ (by omega) (by omega)).mono ?_; rintro en w2 ⟨rfl, rfl⟩) | (go_at_call 42; refine (mod_no _ _ _ (by omega)).mono ?_; rintro en w2 ⟨rfl, rfl⟩) | (go_at_call 43; refine (has_any _ _ _).mono ?_; rintro en w2 ⟨rfl, rfl⟩) | (go_at_call 44; refine (lsl_any _ _ _).mono ?_; rintro en w2 ⟨rfl, rfl⟩) | (go_at_call 45; refine (asr_any _ _ _).mono ?_; rintro en w2 ⟨rfl, rfl⟩) | (go_at_call 46; refine (ror_any _ _ _).mono ?_; rintro en w2 ⟨rfl, rfl⟩))
    all_goals (try go_ret2)
    all_goals exact ⟨by rw [HV.out, HT.out]; first | rfl | (rw [show (b != 0) = true from by simp [hb0]]; rfl) | (rw [show (b != 0) = true from by simp [hb0], show (a != 0) = true from by simp [ha0]]; rfl) | (simp [biI]; rfl), below_drewN HD.out _⟩
set_option maxHeartbeats 6400000 in
theorem two_13 (w : World) (f a b o1 n1 o2 f2 n2 : Int) (nm1 s1 nm2 s2 : ByteArray) (tv1 xv1 tv2 xv2 : Value) (ha : -2147483648 ≤ a ∧ a ≤ 2147483647) (hb : -2147483648 ≤ b ∧ b ≤ 2147483647) : Calls Try.prog 27 #[.int .i64 13, .agg #[.int .i64 o1, .int .i64 f, .int .i64 n1, .string nm1, tv1, .int .i32 a, .string s1, xv1], .agg #[.int .i64 o2, .int .i64 f2, .int .i64 n2, .string nm2, tv2, .int .i32 b, .string s2, xv2]] w fun en w' => en = .returned (.tuple #[.int .i32 (biI 13 f a b), .bool (biB 13 f b)]) ∧ Below w.heap.size w w' := by
  obtain ⟨V, hV⟩ : ∃ V, V = biI 13 f a b := ⟨_, rfl⟩
  obtain ⟨T, hT⟩ : ∃ T, T = biB 13 f b := ⟨_, rfl⟩
  obtain ⟨F, hF⟩ : ∃ F, F = f := ⟨_, rfl⟩
  have hD : Below w.heap.size w ((w.alloc (.cells #[.int .i64 o1, .int .i64 f, .int .i64 n1, .string nm1, tv1, .int .i32 a, .string s1, xv1] 27)).alloc (.cells #[.int .i64 o2, .int .i64 f2, .int .i64 n2, .string nm2, tv2, .int .i32 b, .string s2, xv2] 27)) := ((Below.refl _ _).alloc (Nat.le_refl _) _).alloc (by simp) _
  rw [← hV, ← hT]
  all_goals by_cases h4 : f = 4
  all_goals by_cases hb1 : 1 ≤ b
  all_goals
    simp [biI, h4, hb1] at hV
    simp [biB, h4, hb1] at hT
    clear hF
    try subst h4
    have HV := Lib.hid hV
    have HT := Lib.hid hT
    have HD := Lib.hid hD
    clear hV hT hD
    go_enter Try.func27, Try.ntmps27
    go_wp2_with fail
    go_quiet (fail)
    go_wp2_with (first | (go_at_call 38; refine (sets_any _ _ _ _ (by unfold isBi; omega)).mono ?_; rintro en w2 ⟨rfl, rfl⟩) | (go_at_call 37; refine (truth_any _ _).mono ?_; rintro en w2 ⟨rfl, rfl⟩) | (go_at_call 47; refine (compare_any _ _ F _ _ (by omega)).mono ?_; rintro en w2 ⟨rfl, rfl⟩) | (go_at_call 39; refine (add_any _ _ _).mono ?_; rintro en w2 ⟨rfl, rfl⟩) | (go_at_call 36; refine (sub_any _ _ _).mono ?_; rintro en w2 ⟨rfl, rfl⟩) | (go_at_call 40; refine (mul_any _ _ _).mono ?_; rintro en w2 ⟨rfl, rfl⟩) | (go_at_call 41; refine (div_yes _ _ _ (by omega) (by omega) (by omega)).mono ?_; rintro en w2 ⟨rfl, rfl⟩) | (go_at_call 41; refine (div_no _ _ _ (by omega)).mono ?_; rintro en w2 ⟨rfl, rfl⟩) | (go_at_call 42; refine (mod_yes _ _ _ (by omega) (by omega)).mono ?_; rintro en w2 ⟨rfl, rfl⟩) | (go_at_call 42; refine (mod_no _ _ _ (by omega)).mono ?_; rintro en w2 ⟨rfl, rfl⟩) | (go_at_call 43; refine (has_any _ _ _).mono ?_; rintro en w2 ⟨rfl, rfl⟩) | (go_at_call 44; refine (lsl_any _ _ _).mono ?_; rintro en w2 ⟨rfl, rfl⟩) | (go_at_call 45; refine (asr_any _ _ _).mono ?_; rintro en w2 ⟨rfl, rfl⟩) | (go_at_call 46; refine (ror_any _ _ _).mono ?_; rintro en w2 ⟨rfl, rfl⟩))
    all_goals (try go_ret2)
    all_goals exact ⟨by rw [HV.out, HT.out]; first | rfl | (rw [show (b != 0) = true from by simp [hb0]]; rfl) | (rw [show (b != 0) = true from by simp [hb0], show (a != 0) = true from by simp [ha0]]; rfl) | (simp [biI]; rfl), below_drewN HD.out _⟩
set_option maxHeartbeats 6400000 in
theorem two_14 (w : World) (f a b o1 n1 o2 f2 n2 : Int) (nm1 s1 nm2 s2 : ByteArray) (tv1 xv1 tv2 xv2 : Value) (ha : -2147483648 ≤ a ∧ a ≤ 2147483647) (hb : -2147483648 ≤ b ∧ b ≤ 2147483647) : Calls Try.prog 27 #[.int .i64 14, .agg #[.int .i64 o1, .int .i64 f, .int .i64 n1, .string nm1, tv1, .int .i32 a, .string s1, xv1], .agg #[.int .i64 o2, .int .i64 f2, .int .i64 n2, .string nm2, tv2, .int .i32 b, .string s2, xv2]] w fun en w' => en = .returned (.tuple #[.int .i32 (biI 14 f a b), .bool (biB 14 f b)]) ∧ Below w.heap.size w w' := by
  obtain ⟨V, hV⟩ : ∃ V, V = biI 14 f a b := ⟨_, rfl⟩
  obtain ⟨T, hT⟩ : ∃ T, T = biB 14 f b := ⟨_, rfl⟩
  obtain ⟨F, hF⟩ : ∃ F, F = f := ⟨_, rfl⟩
  have hD : Below w.heap.size w ((w.alloc (.cells #[.int .i64 o1, .int .i64 f, .int .i64 n1, .string nm1, tv1, .int .i32 a, .string s1, xv1] 27)).alloc (.cells #[.int .i64 o2, .int .i64 f2, .int .i64 n2, .string nm2, tv2, .int .i32 b, .string s2, xv2] 27)) := ((Below.refl _ _).alloc (Nat.le_refl _) _).alloc (by simp) _
  rw [← hV, ← hT]
  all_goals by_cases h4 : f = 4
  all_goals by_cases ha0 : a = 0
  all_goals by_cases hb0 : b = 0
  all_goals
    simp [biI, h4, ha0, hb0] at hV
    simp [biB, h4, ha0, hb0] at hT
    clear hF
    try subst h4
    try subst ha0
    try subst hb0
    have HV := Lib.hid hV
    have HT := Lib.hid hT
    have HD := Lib.hid hD
    clear hV hT hD
    go_enter Try.func27, Try.ntmps27
    go_wp2_with fail
    go_quiet (fail)
    go_wp2_with (first | (go_at_call 38; refine (sets_any _ _ _ _ (by unfold isBi; omega)).mono ?_; rintro en w2 ⟨rfl, rfl⟩) | (go_at_call 37; refine (truth_any _ _).mono ?_; rintro en w2 ⟨rfl, rfl⟩) | (go_at_call 47; refine (compare_any _ _ F _ _ (by omega)).mono ?_; rintro en w2 ⟨rfl, rfl⟩) | (go_at_call 39; refine (add_any _ _ _).mono ?_; rintro en w2 ⟨rfl, rfl⟩) | (go_at_call 36; refine (sub_any _ _ _).mono ?_; rintro en w2 ⟨rfl, rfl⟩) | (go_at_call 40; refine (mul_any _ _ _).mono ?_; rintro en w2 ⟨rfl, rfl⟩) | (go_at_call 41; refine (div_yes _ _ _ (by omega) (by omega) (by omega)).mono ?_; rintro en w2 ⟨rfl, rfl⟩) | (go_at_call 41; refine (div_no _ _ _ (by omega)).mono ?_; rintro en w2 ⟨rfl, rfl⟩) | (go_at_call 42; refine (mod_yes _ _ _ (by omega) (by omega)).mono ?_; rintro en w2 ⟨rfl, rfl⟩) | (go_at_call 42; refine (mod_no _ _ _ (by omega)).mono ?_; rintro en w2 ⟨rfl, rfl⟩) | (go_at_call 43; refine (has_any _ _ _).mono ?_; rintro en w2 ⟨rfl, rfl⟩) | (go_at_call 44; refine (lsl_any _ _ _).mono ?_; rintro en w2 ⟨rfl, rfl⟩) | (go_at_call 45; refine (asr_any _ _ _).mono ?_; rintro en w2 ⟨rfl, rfl⟩) | (go_at_call 46; refine (ror_any _ _ _).mono ?_; rintro en w2 ⟨rfl, rfl⟩))
    all_goals (try go_ret2)
    all_goals exact ⟨by rw [HV.out, HT.out]; first | rfl | (rw [show (b != 0) = true from by simp [hb0]]; rfl) | (rw [show (b != 0) = true from by simp [hb0], show (a != 0) = true from by simp [ha0]]; rfl) | (simp [biI]; rfl), below_drewN HD.out _⟩
set_option maxHeartbeats 6400000 in
theorem two_15 (w : World) (f a b o1 n1 o2 f2 n2 : Int) (nm1 s1 nm2 s2 : ByteArray) (tv1 xv1 tv2 xv2 : Value) (ha : -2147483648 ≤ a ∧ a ≤ 2147483647) (hb : -2147483648 ≤ b ∧ b ≤ 2147483647) : Calls Try.prog 27 #[.int .i64 15, .agg #[.int .i64 o1, .int .i64 f, .int .i64 n1, .string nm1, tv1, .int .i32 a, .string s1, xv1], .agg #[.int .i64 o2, .int .i64 f2, .int .i64 n2, .string nm2, tv2, .int .i32 b, .string s2, xv2]] w fun en w' => en = .returned (.tuple #[.int .i32 (biI 15 f a b), .bool (biB 15 f b)]) ∧ Below w.heap.size w w' := by
  obtain ⟨V, hV⟩ : ∃ V, V = biI 15 f a b := ⟨_, rfl⟩
  obtain ⟨T, hT⟩ : ∃ T, T = biB 15 f b := ⟨_, rfl⟩
  obtain ⟨F, hF⟩ : ∃ F, F = f := ⟨_, rfl⟩
  have hD : Below w.heap.size w ((w.alloc (.cells #[.int .i64 o1, .int .i64 f, .int .i64 n1, .string nm1, tv1, .int .i32 a, .string s1, xv1] 27)).alloc (.cells #[.int .i64 o2, .int .i64 f2, .int .i64 n2, .string nm2, tv2, .int .i32 b, .string s2, xv2] 27)) := ((Below.refl _ _).alloc (Nat.le_refl _) _).alloc (by simp) _
  rw [← hV, ← hT]
  all_goals by_cases h4 : f = 4
  all_goals by_cases ha0 : a = 0
  all_goals by_cases hb0 : b = 0
  all_goals
    simp [biI, h4, ha0, hb0] at hV
    simp [biB, h4, ha0, hb0] at hT
    clear hF
    try subst h4
    try subst ha0
    try subst hb0
    have HV := Lib.hid hV
    have HT := Lib.hid hT
    have HD := Lib.hid hD
    clear hV hT hD
    go_enter Try.func27, Try.ntmps27
    go_wp2_with fail
    go_quiet (fail)
    go_wp2_with (first | (go_at_call 38; refine (sets_any _ _ _ _ (by unfold isBi; omega)).mono ?_; rintro en w2 ⟨rfl, rfl⟩) | (go_at_call 37; refine (truth_any _ _).mono ?_; rintro en w2 ⟨rfl, rfl⟩) | (go_at_call 47; refine (compare_any _ _ F _ _ (by omega)).mono ?_; rintro en w2 ⟨rfl, rfl⟩) | (go_at_call 39; refine (add_any _ _ _).mono ?_; rintro en w2 ⟨rfl, rfl⟩) | (go_at_call 36; refine (sub_any _ _ _).mono ?_; rintro en w2 ⟨rfl, rfl⟩) | (go_at_call 40; refine (mul_any _ _ _).mono ?_; rintro en w2 ⟨rfl, rfl⟩) | (go_at_call 41; refine (div_yes _ _ _ (by omega) (by omega) (by omega)).mono ?_; rintro en w2 ⟨rfl, rfl⟩) | (go_at_call 41; refine (div_no _ _ _ (by omega)).mono ?_; rintro en w2 ⟨rfl, rfl⟩) | (go_at_call 42; refine (mod_yes _ _ _ (by omega) (by omega)).mono ?_; rintro en w2 ⟨rfl, rfl⟩) | (go_at_call 42; refine (mod_no _ _ _ (by omega)).mono ?_; rintro en w2 ⟨rfl, rfl⟩) | (go_at_call 43; refine (has_any _ _ _).mono ?_; rintro en w2 ⟨rfl, rfl⟩) | (go_at_call 44; refine (lsl_any _ _ _).mono ?_; rintro en w2 ⟨rfl, rfl⟩) | (go_at_call 45; refine (asr_any _ _ _).mono ?_; rintro en w2 ⟨rfl, rfl⟩) | (go_at_call 46; refine (ror_any _ _ _).mono ?_; rintro en w2 ⟨rfl, rfl⟩))
    all_goals (try go_ret2)
    all_goals exact ⟨by rw [HV.out, HT.out]; first | rfl | (rw [show (b != 0) = true from by simp [hb0]]; rfl) | (rw [show (b != 0) = true from by simp [hb0], show (a != 0) = true from by simp [ha0]]; rfl) | (simp [biI]; rfl), below_drewN HD.out _⟩
set_option maxHeartbeats 6400000 in
theorem two_16 (w : World) (f a b o1 n1 o2 f2 n2 : Int) (nm1 s1 nm2 s2 : ByteArray) (tv1 xv1 tv2 xv2 : Value) (ha : -2147483648 ≤ a ∧ a ≤ 2147483647) (hb : -2147483648 ≤ b ∧ b ≤ 2147483647) : Calls Try.prog 27 #[.int .i64 16, .agg #[.int .i64 o1, .int .i64 f, .int .i64 n1, .string nm1, tv1, .int .i32 a, .string s1, xv1], .agg #[.int .i64 o2, .int .i64 f2, .int .i64 n2, .string nm2, tv2, .int .i32 b, .string s2, xv2]] w fun en w' => en = .returned (.tuple #[.int .i32 (biI 16 f a b), .bool (biB 16 f b)]) ∧ Below w.heap.size w w' := by
  obtain ⟨V, hV⟩ : ∃ V, V = biI 16 f a b := ⟨_, rfl⟩
  obtain ⟨T, hT⟩ : ∃ T, T = biB 16 f b := ⟨_, rfl⟩
  obtain ⟨F, hF⟩ : ∃ F, F = f := ⟨_, rfl⟩
  have hD : Below w.heap.size w ((w.alloc (.cells #[.int .i64 o1, .int .i64 f, .int .i64 n1, .string nm1, tv1, .int .i32 a, .string s1, xv1] 27)).alloc (.cells #[.int .i64 o2, .int .i64 f2, .int .i64 n2, .string nm2, tv2, .int .i32 b, .string s2, xv2] 27)) := ((Below.refl _ _).alloc (Nat.le_refl _) _).alloc (by simp) _
  rw [← hV, ← hT]
  all_goals by_cases h4 : f = 4
  all_goals
    simp [biI, h4] at hV
    simp [biB, h4] at hT
    clear hF
    try subst h4
    have HV := Lib.hid hV
    have HT := Lib.hid hT
    have HD := Lib.hid hD
    clear hV hT hD
    go_enter Try.func27, Try.ntmps27
    go_wp2_with fail
    go_quiet (fail)
    go_wp2_with (first | (go_at_call 38; refine (sets_any _ _ _ _ (by unfold isBi; omega)).mono ?_; rintro en w2 ⟨rfl, rfl⟩) | (go_at_call 37; refine (truth_any _ _).mono ?_; rintro en w2 ⟨rfl, rfl⟩) | (go_at_call 47; refine (compare_any _ _ F _ _ (by omega)).mono ?_; rintro en w2 ⟨rfl, rfl⟩) | (go_at_call 39; refine (add_any _ _ _).mono ?_; rintro en w2 ⟨rfl, rfl⟩) | (go_at_call 36; refine (sub_any _ _ _).mono ?_; rintro en w2 ⟨rfl, rfl⟩) | (go_at_call 40; refine (mul_any _ _ _).mono ?_; rintro en w2 ⟨rfl, rfl⟩) | (go_at_call 41; refine (div_yes _ _ _ (by omega) (by omega) (by omega)).mono ?_; rintro en w2 ⟨rfl, rfl⟩) | (go_at_call 41; refine (div_no _ _ _ (by omega)).mono ?_; rintro en w2 ⟨rfl, rfl⟩) | (go_at_call 42; refine (mod_yes _ _ _ (by omega) (by omega)).mono ?_; rintro en w2 ⟨rfl, rfl⟩) | (go_at_call 42; refine (mod_no _ _ _ (by omega)).mono ?_; rintro en w2 ⟨rfl, rfl⟩) | (go_at_call 43; refine (has_any _ _ _).mono ?_; rintro en w2 ⟨rfl, rfl⟩) | (go_at_call 44; refine (lsl_any _ _ _).mono ?_; rintro en w2 ⟨rfl, rfl⟩) | (go_at_call 45; refine (asr_any _ _ _).mono ?_; rintro en w2 ⟨rfl, rfl⟩) | (go_at_call 46; refine (ror_any _ _ _).mono ?_; rintro en w2 ⟨rfl, rfl⟩))
    all_goals (try go_ret2)
    all_goals exact ⟨by rw [HV.out, HT.out]; first | rfl | (rw [show (b != 0) = true from by simp [hb0]]; rfl) | (rw [show (b != 0) = true from by simp [hb0], show (a != 0) = true from by simp [ha0]]; rfl) | (simp [biI]; rfl), below_drewN HD.out _⟩
set_option maxHeartbeats 6400000 in
theorem two_17 (w : World) (f a b o1 n1 o2 f2 n2 : Int) (nm1 s1 nm2 s2 : ByteArray) (tv1 xv1 tv2 xv2 : Value) (ha : -2147483648 ≤ a ∧ a ≤ 2147483647) (hb : -2147483648 ≤ b ∧ b ≤ 2147483647) : Calls Try.prog 27 #[.int .i64 17, .agg #[.int .i64 o1, .int .i64 f, .int .i64 n1, .string nm1, tv1, .int .i32 a, .string s1, xv1], .agg #[.int .i64 o2, .int .i64 f2, .int .i64 n2, .string nm2, tv2, .int .i32 b, .string s2, xv2]] w fun en w' => en = .returned (.tuple #[.int .i32 (biI 17 f a b), .bool (biB 17 f b)]) ∧ Below w.heap.size w w' := by
  obtain ⟨V, hV⟩ : ∃ V, V = biI 17 f a b := ⟨_, rfl⟩
  obtain ⟨T, hT⟩ : ∃ T, T = biB 17 f b := ⟨_, rfl⟩
  obtain ⟨F, hF⟩ : ∃ F, F = f := ⟨_, rfl⟩
  have hD : Below w.heap.size w ((w.alloc (.cells #[.int .i64 o1, .int .i64 f, .int .i64 n1, .string nm1, tv1, .int .i32 a, .string s1, xv1] 27)).alloc (.cells #[.int .i64 o2, .int .i64 f2, .int .i64 n2, .string nm2, tv2, .int .i32 b, .string s2, xv2] 27)) := ((Below.refl _ _).alloc (Nat.le_refl _) _).alloc (by simp) _
  rw [← hV, ← hT]
  all_goals by_cases h4 : f = 4
  all_goals
    simp [biI, h4] at hV
    simp [biB, h4] at hT
    clear hF
    try subst h4
    have HV := Lib.hid hV
    have HT := Lib.hid hT
    have HD := Lib.hid hD
    clear hV hT hD
    go_enter Try.func27, Try.ntmps27
    go_wp2_with fail
    go_quiet (fail)
    go_wp2_with (first | (go_at_call 38; refine (sets_any _ _ _ _ (by unfold isBi; omega)).mono ?_; rintro en w2 ⟨rfl, rfl⟩) | (go_at_call 37; refine (truth_any _ _).mono ?_; rintro en w2 ⟨rfl, rfl⟩) | (go_at_call 47; refine (compare_any _ _ F _ _ (by omega)).mono ?_; rintro en w2 ⟨rfl, rfl⟩) | (go_at_call 39; refine (add_any _ _ _).mono ?_; rintro en w2 ⟨rfl, rfl⟩) | (go_at_call 36; refine (sub_any _ _ _).mono ?_; rintro en w2 ⟨rfl, rfl⟩) | (go_at_call 40; refine (mul_any _ _ _).mono ?_; rintro en w2 ⟨rfl, rfl⟩) | (go_at_call 41; refine (div_yes _ _ _ (by omega) (by omega) (by omega)).mono ?_; rintro en w2 ⟨rfl, rfl⟩) | (go_at_call 41; refine (div_no _ _ _ (by omega)).mono ?_; rintro en w2 ⟨rfl, rfl⟩) | (go_at_call 42; refine (mod_yes _ _ _ (by omega) (by omega)).mono ?_; rintro en w2 ⟨rfl, rfl⟩) | (go_at_call 42; refine (mod_no _ _ _ (by omega)).mono ?_; rintro en w2 ⟨rfl, rfl⟩) | (go_at_call 43; refine (has_any _ _ _).mono ?_; rintro en w2 ⟨rfl, rfl⟩) | (go_at_call 44; refine (lsl_any _ _ _).mono ?_; rintro en w2 ⟨rfl, rfl⟩) | (go_at_call 45; refine (asr_any _ _ _).mono ?_; rintro en w2 ⟨rfl, rfl⟩) | (go_at_call 46; refine (ror_any _ _ _).mono ?_; rintro en w2 ⟨rfl, rfl⟩))
    all_goals (try go_ret2)
    all_goals exact ⟨by rw [HV.out, HT.out]; first | rfl | (rw [show (b != 0) = true from by simp [hb0]]; rfl) | (rw [show (b != 0) = true from by simp [hb0], show (a != 0) = true from by simp [ha0]]; rfl) | (simp [biI]; rfl), below_drewN HD.out _⟩
set_option maxHeartbeats 6400000 in
theorem two_18 (w : World) (f a b o1 n1 o2 f2 n2 : Int) (nm1 s1 nm2 s2 : ByteArray) (tv1 xv1 tv2 xv2 : Value) (ha : -2147483648 ≤ a ∧ a ≤ 2147483647) (hb : -2147483648 ≤ b ∧ b ≤ 2147483647) : Calls Try.prog 27 #[.int .i64 18, .agg #[.int .i64 o1, .int .i64 f, .int .i64 n1, .string nm1, tv1, .int .i32 a, .string s1, xv1], .agg #[.int .i64 o2, .int .i64 f2, .int .i64 n2, .string nm2, tv2, .int .i32 b, .string s2, xv2]] w fun en w' => en = .returned (.tuple #[.int .i32 (biI 18 f a b), .bool (biB 18 f b)]) ∧ Below w.heap.size w w' := by
  obtain ⟨V, hV⟩ : ∃ V, V = biI 18 f a b := ⟨_, rfl⟩
  obtain ⟨T, hT⟩ : ∃ T, T = biB 18 f b := ⟨_, rfl⟩
  obtain ⟨F, hF⟩ : ∃ F, F = f := ⟨_, rfl⟩
  have hD : Below w.heap.size w ((w.alloc (.cells #[.int .i64 o1, .int .i64 f, .int .i64 n1, .string nm1, tv1, .int .i32 a, .string s1, xv1] 27)).alloc (.cells #[.int .i64 o2, .int .i64 f2, .int .i64 n2, .string nm2, tv2, .int .i32 b, .string s2, xv2] 27)) := ((Below.refl _ _).alloc (Nat.le_refl _) _).alloc (by simp) _
  rw [← hV, ← hT]
  all_goals by_cases h4 : f = 4
  all_goals
    simp [biI, h4] at hV
    simp [biB, h4] at hT
    clear hF
    try subst h4
    have HV := Lib.hid hV
    have HT := Lib.hid hT
    have HD := Lib.hid hD
    clear hV hT hD
    go_enter Try.func27, Try.ntmps27
    go_wp2_with fail
    go_quiet (fail)
    go_wp2_with (first | (go_at_call 38; refine (sets_any _ _ _ _ (by unfold isBi; omega)).mono ?_; rintro en w2 ⟨rfl, rfl⟩) | (go_at_call 37; refine (truth_any _ _).mono ?_; rintro en w2 ⟨rfl, rfl⟩) | (go_at_call 47; refine (compare_any _ _ F _ _ (by omega)).mono ?_; rintro en w2 ⟨rfl, rfl⟩) | (go_at_call 39; refine (add_any _ _ _).mono ?_; rintro en w2 ⟨rfl, rfl⟩) | (go_at_call 36; refine (sub_any _ _ _).mono ?_; rintro en w2 ⟨rfl, rfl⟩) | (go_at_call 40; refine (mul_any _ _ _).mono ?_; rintro en w2 ⟨rfl, rfl⟩) | (go_at_call 41; refine (div_yes _ _ _ (by omega) (by omega) (by omega)).mono ?_; rintro en w2 ⟨rfl, rfl⟩) | (go_at_call 41; refine (div_no _ _ _ (by omega)).mono ?_; rintro en w2 ⟨rfl, rfl⟩) | (go_at_call 42; refine (mod_yes _ _ _ (by omega) (by omega)).mono ?_; rintro en w2 ⟨rfl, rfl⟩) | (go_at_call 42; refine (mod_no _ _ _ (by omega)).mono ?_; rintro en w2 ⟨rfl, rfl⟩) | (go_at_call 43; refine (has_any _ _ _).mono ?_; rintro en w2 ⟨rfl, rfl⟩) | (go_at_call 44; refine (lsl_any _ _ _).mono ?_; rintro en w2 ⟨rfl, rfl⟩) | (go_at_call 45; refine (asr_any _ _ _).mono ?_; rintro en w2 ⟨rfl, rfl⟩) | (go_at_call 46; refine (ror_any _ _ _).mono ?_; rintro en w2 ⟨rfl, rfl⟩))
    all_goals (try go_ret2)
    all_goals exact ⟨by rw [HV.out, HT.out]; first | rfl | (rw [show (b != 0) = true from by simp [hb0]]; rfl) | (rw [show (b != 0) = true from by simp [hb0], show (a != 0) = true from by simp [ha0]]; rfl) | (simp [biI]; rfl), below_drewN HD.out _⟩
set_option maxHeartbeats 6400000 in
theorem two_19 (w : World) (f a b o1 n1 o2 f2 n2 : Int) (nm1 s1 nm2 s2 : ByteArray) (tv1 xv1 tv2 xv2 : Value) (ha : -2147483648 ≤ a ∧ a ≤ 2147483647) (hb : -2147483648 ≤ b ∧ b ≤ 2147483647) : Calls Try.prog 27 #[.int .i64 19, .agg #[.int .i64 o1, .int .i64 f, .int .i64 n1, .string nm1, tv1, .int .i32 a, .string s1, xv1], .agg #[.int .i64 o2, .int .i64 f2, .int .i64 n2, .string nm2, tv2, .int .i32 b, .string s2, xv2]] w fun en w' => en = .returned (.tuple #[.int .i32 (biI 19 f a b), .bool (biB 19 f b)]) ∧ Below w.heap.size w w' := by
  obtain ⟨V, hV⟩ : ∃ V, V = biI 19 f a b := ⟨_, rfl⟩
  obtain ⟨T, hT⟩ : ∃ T, T = biB 19 f b := ⟨_, rfl⟩
  obtain ⟨F, hF⟩ : ∃ F, F = f := ⟨_, rfl⟩
  have hD : Below w.heap.size w ((w.alloc (.cells #[.int .i64 o1, .int .i64 f, .int .i64 n1, .string nm1, tv1, .int .i32 a, .string s1, xv1] 27)).alloc (.cells #[.int .i64 o2, .int .i64 f2, .int .i64 n2, .string nm2, tv2, .int .i32 b, .string s2, xv2] 27)) := ((Below.refl _ _).alloc (Nat.le_refl _) _).alloc (by simp) _
  rw [← hV, ← hT]
  all_goals by_cases h4 : f = 4
  all_goals
    simp [biI, h4] at hV
    simp [biB, h4] at hT
    clear hF
    try subst h4
    have HV := Lib.hid hV
    have HT := Lib.hid hT
    have HD := Lib.hid hD
    clear hV hT hD
    go_enter Try.func27, Try.ntmps27
    go_wp2_with fail
    go_quiet (fail)
    go_wp2_with (first | (go_at_call 38; refine (sets_any _ _ _ _ (by unfold isBi; omega)).mono ?_; rintro en w2 ⟨rfl, rfl⟩) | (go_at_call 37; refine (truth_any _ _).mono ?_; rintro en w2 ⟨rfl, rfl⟩) | (go_at_call 47; refine (compare_any _ _ F _ _ (by omega)).mono ?_; rintro en w2 ⟨rfl, rfl⟩) | (go_at_call 39; refine (add_any _ _ _).mono ?_; rintro en w2 ⟨rfl, rfl⟩) | (go_at_call 36; refine (sub_any _ _ _).mono ?_; rintro en w2 ⟨rfl, rfl⟩) | (go_at_call 40; refine (mul_any _ _ _).mono ?_; rintro en w2 ⟨rfl, rfl⟩) | (go_at_call 41; refine (div_yes _ _ _ (by omega) (by omega) (by omega)).mono ?_; rintro en w2 ⟨rfl, rfl⟩) | (go_at_call 41; refine (div_no _ _ _ (by omega)).mono ?_; rintro en w2 ⟨rfl, rfl⟩) | (go_at_call 42; refine (mod_yes _ _ _ (by omega) (by omega)).mono ?_; rintro en w2 ⟨rfl, rfl⟩) | (go_at_call 42; refine (mod_no _ _ _ (by omega)).mono ?_; rintro en w2 ⟨rfl, rfl⟩) | (go_at_call 43; refine (has_any _ _ _).mono ?_; rintro en w2 ⟨rfl, rfl⟩) | (go_at_call 44; refine (lsl_any _ _ _).mono ?_; rintro en w2 ⟨rfl, rfl⟩) | (go_at_call 45; refine (asr_any _ _ _).mono ?_; rintro en w2 ⟨rfl, rfl⟩) | (go_at_call 46; refine (ror_any _ _ _).mono ?_; rintro en w2 ⟨rfl, rfl⟩))
    all_goals (try go_ret2)
    all_goals exact ⟨by rw [HV.out, HT.out]; first | rfl | (rw [show (b != 0) = true from by simp [hb0]]; rfl) | (rw [show (b != 0) = true from by simp [hb0], show (a != 0) = true from by simp [ha0]]; rfl) | (simp [biI]; rfl), below_drewN HD.out _⟩
set_option maxHeartbeats 6400000 in
theorem two_20 (w : World) (f a b o1 n1 o2 f2 n2 : Int) (nm1 s1 nm2 s2 : ByteArray) (tv1 xv1 tv2 xv2 : Value) (ha : -2147483648 ≤ a ∧ a ≤ 2147483647) (hb : -2147483648 ≤ b ∧ b ≤ 2147483647) : Calls Try.prog 27 #[.int .i64 20, .agg #[.int .i64 o1, .int .i64 f, .int .i64 n1, .string nm1, tv1, .int .i32 a, .string s1, xv1], .agg #[.int .i64 o2, .int .i64 f2, .int .i64 n2, .string nm2, tv2, .int .i32 b, .string s2, xv2]] w fun en w' => en = .returned (.tuple #[.int .i32 (biI 20 f a b), .bool (biB 20 f b)]) ∧ Below w.heap.size w w' := by
  obtain ⟨V, hV⟩ : ∃ V, V = biI 20 f a b := ⟨_, rfl⟩
  obtain ⟨T, hT⟩ : ∃ T, T = biB 20 f b := ⟨_, rfl⟩
  obtain ⟨F, hF⟩ : ∃ F, F = f := ⟨_, rfl⟩
  have hD : Below w.heap.size w ((w.alloc (.cells #[.int .i64 o1, .int .i64 f, .int .i64 n1, .string nm1, tv1, .int .i32 a, .string s1, xv1] 27)).alloc (.cells #[.int .i64 o2, .int .i64 f2, .int .i64 n2, .string nm2, tv2, .int .i32 b, .string s2, xv2] 27)) := ((Below.refl _ _).alloc (Nat.le_refl _) _).alloc (by simp) _
  rw [← hV, ← hT]
  all_goals by_cases h4 : f = 4
  all_goals
    simp [biI, h4] at hV
    simp [biB, h4] at hT
    clear hF
    try subst h4
    have HV := Lib.hid hV
    have HT := Lib.hid hT
    have HD := Lib.hid hD
    clear hV hT hD
    go_enter Try.func27, Try.ntmps27
    go_wp2_with fail
    go_quiet (fail)
    go_wp2_with (first | (go_at_call 38; refine (sets_any _ _ _ _ (by unfold isBi; omega)).mono ?_; rintro en w2 ⟨rfl, rfl⟩) | (go_at_call 37; refine (truth_any _ _).mono ?_; rintro en w2 ⟨rfl, rfl⟩) | (go_at_call 47; refine (compare_any _ _ F _ _ (by omega)).mono ?_; rintro en w2 ⟨rfl, rfl⟩) | (go_at_call 39; refine (add_any _ _ _).mono ?_; rintro en w2 ⟨rfl, rfl⟩) | (go_at_call 36; refine (sub_any _ _ _).mono ?_; rintro en w2 ⟨rfl, rfl⟩) | (go_at_call 40; refine (mul_any _ _ _).mono ?_; rintro en w2 ⟨rfl, rfl⟩) | (go_at_call 41; refine (div_yes _ _ _ (by omega) (by omega) (by omega)).mono ?_; rintro en w2 ⟨rfl, rfl⟩) | (go_at_call 41; refine (div_no _ _ _ (by omega)).mono ?_; rintro en w2 ⟨rfl, rfl⟩) | (go_at_call 42; refine (mod_yes _ _ _ (by omega) (by omega)).mono ?_; rintro en w2 ⟨rfl, rfl⟩) | (go_at_call 42; refine (mod_no _ _ _ (by omega)).mono ?_; rintro en w2 ⟨rfl, rfl⟩) | (go_at_call 43; refine (has_any _ _ _).mono ?_; rintro en w2 ⟨rfl, rfl⟩) | (go_at_call 44; refine (lsl_any _ _ _).mono ?_; rintro en w2 ⟨rfl, rfl⟩) | (go_at_call 45; refine (asr_any _ _ _).mono ?_; rintro en w2 ⟨rfl, rfl⟩) | (go_at_call 46; refine (ror_any _ _ _).mono ?_; rintro en w2 ⟨rfl, rfl⟩))
    all_goals (try go_ret2)
    all_goals exact ⟨by rw [HV.out, HT.out]; first | rfl | (rw [show (b != 0) = true from by simp [hb0]]; rfl) | (rw [show (b != 0) = true from by simp [hb0], show (a != 0) = true from by simp [ha0]]; rfl) | (simp [biI]; rfl), below_drewN HD.out _⟩
set_option maxHeartbeats 6400000 in
theorem two_21 (w : World) (f a b o1 n1 o2 f2 n2 : Int) (nm1 s1 nm2 s2 : ByteArray) (tv1 xv1 tv2 xv2 : Value) (ha : -2147483648 ≤ a ∧ a ≤ 2147483647) (hb : -2147483648 ≤ b ∧ b ≤ 2147483647) : Calls Try.prog 27 #[.int .i64 21, .agg #[.int .i64 o1, .int .i64 f, .int .i64 n1, .string nm1, tv1, .int .i32 a, .string s1, xv1], .agg #[.int .i64 o2, .int .i64 f2, .int .i64 n2, .string nm2, tv2, .int .i32 b, .string s2, xv2]] w fun en w' => en = .returned (.tuple #[.int .i32 (biI 21 f a b), .bool (biB 21 f b)]) ∧ Below w.heap.size w w' := by
  obtain ⟨V, hV⟩ : ∃ V, V = biI 21 f a b := ⟨_, rfl⟩
  obtain ⟨T, hT⟩ : ∃ T, T = biB 21 f b := ⟨_, rfl⟩
  obtain ⟨F, hF⟩ : ∃ F, F = f := ⟨_, rfl⟩
  have hD : Below w.heap.size w ((w.alloc (.cells #[.int .i64 o1, .int .i64 f, .int .i64 n1, .string nm1, tv1, .int .i32 a, .string s1, xv1] 27)).alloc (.cells #[.int .i64 o2, .int .i64 f2, .int .i64 n2, .string nm2, tv2, .int .i32 b, .string s2, xv2] 27)) := ((Below.refl _ _).alloc (Nat.le_refl _) _).alloc (by simp) _
  rw [← hV, ← hT]
  all_goals by_cases h4 : f = 4
  all_goals
    simp [biI, h4] at hV
    simp [biB, h4] at hT
    clear hF
    try subst h4
    have HV := Lib.hid hV
    have HT := Lib.hid hT
    have HD := Lib.hid hD
    clear hV hT hD
    go_enter Try.func27, Try.ntmps27
    go_wp2_with fail
    go_quiet (fail)
    go_wp2_with (first | (go_at_call 38; refine (sets_any _ _ _ _ (by unfold isBi; omega)).mono ?_; rintro en w2 ⟨rfl, rfl⟩) | (go_at_call 37; refine (truth_any _ _).mono ?_; rintro en w2 ⟨rfl, rfl⟩) | (go_at_call 47; refine (compare_any _ _ F _ _ (by omega)).mono ?_; rintro en w2 ⟨rfl, rfl⟩) | (go_at_call 39; refine (add_any _ _ _).mono ?_; rintro en w2 ⟨rfl, rfl⟩) | (go_at_call 36; refine (sub_any _ _ _).mono ?_; rintro en w2 ⟨rfl, rfl⟩) | (go_at_call 40; refine (mul_any _ _ _).mono ?_; rintro en w2 ⟨rfl, rfl⟩) | (go_at_call 41; refine (div_yes _ _ _ (by omega) (by omega) (by omega)).mono ?_; rintro en w2 ⟨rfl, rfl⟩) | (go_at_call 41; refine (div_no _ _ _ (by omega)).mono ?_; rintro en w2 ⟨rfl, rfl⟩) | (go_at_call 42; refine (mod_yes _ _ _ (by omega) (by omega)).mono ?_; rintro en w2 ⟨rfl, rfl⟩) | (go_at_call 42; refine (mod_no _ _ _ (by omega)).mono ?_; rintro en w2 ⟨rfl, rfl⟩) | (go_at_call 43; refine (has_any _ _ _).mono ?_; rintro en w2 ⟨rfl, rfl⟩) | (go_at_call 44; refine (lsl_any _ _ _).mono ?_; rintro en w2 ⟨rfl, rfl⟩) | (go_at_call 45; refine (asr_any _ _ _).mono ?_; rintro en w2 ⟨rfl, rfl⟩) | (go_at_call 46; refine (ror_any _ _ _).mono ?_; rintro en w2 ⟨rfl, rfl⟩))
    all_goals (try go_ret2)
    all_goals exact ⟨by rw [HV.out, HT.out]; first | rfl | (rw [show (b != 0) = true from by simp [hb0]]; rfl) | (rw [show (b != 0) = true from by simp [hb0], show (a != 0) = true from by simp [ha0]]; rfl) | (simp [biI]; rfl), below_drewN HD.out _⟩
set_option maxHeartbeats 6400000 in
theorem two_22 (w : World) (f a b o1 n1 o2 f2 n2 : Int) (nm1 s1 nm2 s2 : ByteArray) (tv1 xv1 tv2 xv2 : Value) (ha : -2147483648 ≤ a ∧ a ≤ 2147483647) (hb : -2147483648 ≤ b ∧ b ≤ 2147483647) : Calls Try.prog 27 #[.int .i64 22, .agg #[.int .i64 o1, .int .i64 f, .int .i64 n1, .string nm1, tv1, .int .i32 a, .string s1, xv1], .agg #[.int .i64 o2, .int .i64 f2, .int .i64 n2, .string nm2, tv2, .int .i32 b, .string s2, xv2]] w fun en w' => en = .returned (.tuple #[.int .i32 (biI 22 f a b), .bool (biB 22 f b)]) ∧ Below w.heap.size w w' := by
  obtain ⟨V, hV⟩ : ∃ V, V = biI 22 f a b := ⟨_, rfl⟩
  obtain ⟨T, hT⟩ : ∃ T, T = biB 22 f b := ⟨_, rfl⟩
  obtain ⟨F, hF⟩ : ∃ F, F = f := ⟨_, rfl⟩
  have hD : Below w.heap.size w ((w.alloc (.cells #[.int .i64 o1, .int .i64 f, .int .i64 n1, .string nm1, tv1, .int .i32 a, .string s1, xv1] 27)).alloc (.cells #[.int .i64 o2, .int .i64 f2, .int .i64 n2, .string nm2, tv2, .int .i32 b, .string s2, xv2] 27)) := ((Below.refl _ _).alloc (Nat.le_refl _) _).alloc (by simp) _
  rw [← hV, ← hT]
  all_goals by_cases h4 : f = 4
  all_goals
    simp [biI, h4] at hV
    simp [biB, h4] at hT
    clear hF
    try subst h4
    have HV := Lib.hid hV
    have HT := Lib.hid hT
    have HD := Lib.hid hD
    clear hV hT hD
    go_enter Try.func27, Try.ntmps27
    go_wp2_with fail
    go_quiet (fail)
    go_wp2_with (first | (go_at_call 38; refine (sets_any _ _ _ _ (by unfold isBi; omega)).mono ?_; rintro en w2 ⟨rfl, rfl⟩) | (go_at_call 37; refine (truth_any _ _).mono ?_; rintro en w2 ⟨rfl, rfl⟩) | (go_at_call 47; refine (compare_any _ _ F _ _ (by omega)).mono ?_; rintro en w2 ⟨rfl, rfl⟩) | (go_at_call 39; refine (add_any _ _ _).mono ?_; rintro en w2 ⟨rfl, rfl⟩) | (go_at_call 36; refine (sub_any _ _ _).mono ?_; rintro en w2 ⟨rfl, rfl⟩) | (go_at_call 40; refine (mul_any _ _ _).mono ?_; rintro en w2 ⟨rfl, rfl⟩) | (go_at_call 41; refine (div_yes _ _ _ (by omega) (by omega) (by omega)).mono ?_; rintro en w2 ⟨rfl, rfl⟩) | (go_at_call 41; refine (div_no _ _ _ (by omega)).mono ?_; rintro en w2 ⟨rfl, rfl⟩) | (go_at_call 42; refine (mod_yes _ _ _ (by omega) (by omega)).mono ?_; rintro en w2 ⟨rfl, rfl⟩) | (go_at_call 42; refine (mod_no _ _ _ (by omega)).mono ?_; rintro en w2 ⟨rfl, rfl⟩) | (go_at_call 43; refine (has_any _ _ _).mono ?_; rintro en w2 ⟨rfl, rfl⟩) | (go_at_call 44; refine (lsl_any _ _ _).mono ?_; rintro en w2 ⟨rfl, rfl⟩) | (go_at_call 45; refine (asr_any _ _ _).mono ?_; rintro en w2 ⟨rfl, rfl⟩) | (go_at_call 46; refine (ror_any _ _ _).mono ?_; rintro en w2 ⟨rfl, rfl⟩))
    all_goals (try go_ret2)
    all_goals exact ⟨by rw [HV.out, HT.out]; first | rfl | (rw [show (b != 0) = true from by simp [hb0]]; rfl) | (rw [show (b != 0) = true from by simp [hb0], show (a != 0) = true from by simp [ha0]]; rfl) | (simp [biI]; rfl), below_drewN HD.out _⟩
set_option maxHeartbeats 6400000 in
theorem two_29 (w : World) (f a b o1 n1 o2 f2 n2 : Int) (nm1 s1 nm2 s2 : ByteArray) (tv1 xv1 tv2 xv2 : Value) (ha : -2147483648 ≤ a ∧ a ≤ 2147483647) (hb : -2147483648 ≤ b ∧ b ≤ 2147483647) : Calls Try.prog 27 #[.int .i64 29, .agg #[.int .i64 o1, .int .i64 f, .int .i64 n1, .string nm1, tv1, .int .i32 a, .string s1, xv1], .agg #[.int .i64 o2, .int .i64 f2, .int .i64 n2, .string nm2, tv2, .int .i32 b, .string s2, xv2]] w fun en w' => en = .returned (.tuple #[.int .i32 (biI 29 f a b), .bool (biB 29 f b)]) ∧ Below w.heap.size w w' := by
  obtain ⟨V, hV⟩ : ∃ V, V = biI 29 f a b := ⟨_, rfl⟩
  obtain ⟨T, hT⟩ : ∃ T, T = biB 29 f b := ⟨_, rfl⟩
  obtain ⟨F, hF⟩ : ∃ F, F = f := ⟨_, rfl⟩
  have hD : Below w.heap.size w ((w.alloc (.cells #[.int .i64 o1, .int .i64 f, .int .i64 n1, .string nm1, tv1, .int .i32 a, .string s1, xv1] 27)).alloc (.cells #[.int .i64 o2, .int .i64 f2, .int .i64 n2, .string nm2, tv2, .int .i32 b, .string s2, xv2] 27)) := ((Below.refl _ _).alloc (Nat.le_refl _) _).alloc (by simp) _
  rw [← hV, ← hT]
  all_goals by_cases h4 : f = 4
  all_goals
    simp [biI, h4] at hV
    simp [biB, h4] at hT
    clear hF
    try subst h4
    have HV := Lib.hid hV
    have HT := Lib.hid hT
    have HD := Lib.hid hD
    clear hV hT hD
    go_enter Try.func27, Try.ntmps27
    go_wp2_with fail
    go_quiet (fail)
    go_wp2_with (first | (go_at_call 38; refine (sets_any _ _ _ _ (by unfold isBi; omega)).mono ?_; rintro en w2 ⟨rfl, rfl⟩) | (go_at_call 37; refine (truth_any _ _).mono ?_; rintro en w2 ⟨rfl, rfl⟩) | (go_at_call 47; refine (compare_any _ _ F _ _ (by omega)).mono ?_; rintro en w2 ⟨rfl, rfl⟩) | (go_at_call 39; refine (add_any _ _ _).mono ?_; rintro en w2 ⟨rfl, rfl⟩) | (go_at_call 36; refine (sub_any _ _ _).mono ?_; rintro en w2 ⟨rfl, rfl⟩) | (go_at_call 40; refine (mul_any _ _ _).mono ?_; rintro en w2 ⟨rfl, rfl⟩) | (go_at_call 41; refine (div_yes _ _ _ (by omega) (by omega) (by omega)).mono ?_; rintro en w2 ⟨rfl, rfl⟩) | (go_at_call 41; refine (div_no _ _ _ (by omega)).mono ?_; rintro en w2 ⟨rfl, rfl⟩) | (go_at_call 42; refine (mod_yes _ _ _ (by omega) (by omega)).mono ?_; rintro en w2 ⟨rfl, rfl⟩) | (go_at_call 42; refine (mod_no _ _ _ (by omega)).mono ?_; rintro en w2 ⟨rfl, rfl⟩) | (go_at_call 43; refine (has_any _ _ _).mono ?_; rintro en w2 ⟨rfl, rfl⟩) | (go_at_call 44; refine (lsl_any _ _ _).mono ?_; rintro en w2 ⟨rfl, rfl⟩) | (go_at_call 45; refine (asr_any _ _ _).mono ?_; rintro en w2 ⟨rfl, rfl⟩) | (go_at_call 46; refine (ror_any _ _ _).mono ?_; rintro en w2 ⟨rfl, rfl⟩))
    all_goals (try go_ret2)
    all_goals exact ⟨by rw [HV.out, HT.out]; first | rfl | (rw [show (b != 0) = true from by simp [hb0]]; rfl) | (rw [show (b != 0) = true from by simp [hb0], show (a != 0) = true from by simp [ha0]]; rfl) | (simp [biI]; rfl), below_drewN HD.out _⟩
set_option maxHeartbeats 6400000 in
theorem two_30 (w : World) (f a b o1 n1 o2 f2 n2 : Int) (nm1 s1 nm2 s2 : ByteArray) (tv1 xv1 tv2 xv2 : Value) (ha : -2147483648 ≤ a ∧ a ≤ 2147483647) (hb : -2147483648 ≤ b ∧ b ≤ 2147483647) : Calls Try.prog 27 #[.int .i64 30, .agg #[.int .i64 o1, .int .i64 f, .int .i64 n1, .string nm1, tv1, .int .i32 a, .string s1, xv1], .agg #[.int .i64 o2, .int .i64 f2, .int .i64 n2, .string nm2, tv2, .int .i32 b, .string s2, xv2]] w fun en w' => en = .returned (.tuple #[.int .i32 (biI 30 f a b), .bool (biB 30 f b)]) ∧ Below w.heap.size w w' := by
  obtain ⟨V, hV⟩ : ∃ V, V = biI 30 f a b := ⟨_, rfl⟩
  obtain ⟨T, hT⟩ : ∃ T, T = biB 30 f b := ⟨_, rfl⟩
  obtain ⟨F, hF⟩ : ∃ F, F = f := ⟨_, rfl⟩
  have hD : Below w.heap.size w ((w.alloc (.cells #[.int .i64 o1, .int .i64 f, .int .i64 n1, .string nm1, tv1, .int .i32 a, .string s1, xv1] 27)).alloc (.cells #[.int .i64 o2, .int .i64 f2, .int .i64 n2, .string nm2, tv2, .int .i32 b, .string s2, xv2] 27)) := ((Below.refl _ _).alloc (Nat.le_refl _) _).alloc (by simp) _
  rw [← hV, ← hT]
  all_goals by_cases h4 : f = 4
  all_goals
    simp [biI, h4] at hV
    simp [biB, h4] at hT
    clear hF
    try subst h4
    have HV := Lib.hid hV
    have HT := Lib.hid hT
    have HD := Lib.hid hD
    clear hV hT hD
    go_enter Try.func27, Try.ntmps27
    go_wp2_with fail
    go_quiet (fail)
    go_wp2_with (first | (go_at_call 38; refine (sets_any _ _ _ _ (by unfold isBi; omega)).mono ?_; rintro en w2 ⟨rfl, rfl⟩) | (go_at_call 37; refine (truth_any _ _).mono ?_; rintro en w2 ⟨rfl, rfl⟩) | (go_at_call 47; refine (compare_any _ _ F _ _ (by omega)).mono ?_; rintro en w2 ⟨rfl, rfl⟩) | (go_at_call 39; refine (add_any _ _ _).mono ?_; rintro en w2 ⟨rfl, rfl⟩) | (go_at_call 36; refine (sub_any _ _ _).mono ?_; rintro en w2 ⟨rfl, rfl⟩) | (go_at_call 40; refine (mul_any _ _ _).mono ?_; rintro en w2 ⟨rfl, rfl⟩) | (go_at_call 41; refine (div_yes _ _ _ (by omega) (by omega) (by omega)).mono ?_; rintro en w2 ⟨rfl, rfl⟩) | (go_at_call 41; refine (div_no _ _ _ (by omega)).mono ?_; rintro en w2 ⟨rfl, rfl⟩) | (go_at_call 42; refine (mod_yes _ _ _ (by omega) (by omega)).mono ?_; rintro en w2 ⟨rfl, rfl⟩) | (go_at_call 42; refine (mod_no _ _ _ (by omega)).mono ?_; rintro en w2 ⟨rfl, rfl⟩) | (go_at_call 43; refine (has_any _ _ _).mono ?_; rintro en w2 ⟨rfl, rfl⟩) | (go_at_call 44; refine (lsl_any _ _ _).mono ?_; rintro en w2 ⟨rfl, rfl⟩) | (go_at_call 45; refine (asr_any _ _ _).mono ?_; rintro en w2 ⟨rfl, rfl⟩) | (go_at_call 46; refine (ror_any _ _ _).mono ?_; rintro en w2 ⟨rfl, rfl⟩))
    all_goals (try go_ret2)
    all_goals exact ⟨by rw [HV.out, HT.out]; first | rfl | (rw [show (b != 0) = true from by simp [hb0]]; rfl) | (rw [show (b != 0) = true from by simp [hb0], show (a != 0) = true from by simp [ha0]]; rfl) | (simp [biI]; rfl), below_drewN HD.out _⟩
set_option maxHeartbeats 6400000 in
theorem two_31 (w : World) (f a b o1 n1 o2 f2 n2 : Int) (nm1 s1 nm2 s2 : ByteArray) (tv1 xv1 tv2 xv2 : Value) (ha : -2147483648 ≤ a ∧ a ≤ 2147483647) (hb : -2147483648 ≤ b ∧ b ≤ 2147483647) : Calls Try.prog 27 #[.int .i64 31, .agg #[.int .i64 o1, .int .i64 f, .int .i64 n1, .string nm1, tv1, .int .i32 a, .string s1, xv1], .agg #[.int .i64 o2, .int .i64 f2, .int .i64 n2, .string nm2, tv2, .int .i32 b, .string s2, xv2]] w fun en w' => en = .returned (.tuple #[.int .i32 (biI 31 f a b), .bool (biB 31 f b)]) ∧ Below w.heap.size w w' := by
  obtain ⟨V, hV⟩ : ∃ V, V = biI 31 f a b := ⟨_, rfl⟩
  obtain ⟨T, hT⟩ : ∃ T, T = biB 31 f b := ⟨_, rfl⟩
  obtain ⟨F, hF⟩ : ∃ F, F = f := ⟨_, rfl⟩
  have hD : Below w.heap.size w ((w.alloc (.cells #[.int .i64 o1, .int .i64 f, .int .i64 n1, .string nm1, tv1, .int .i32 a, .string s1, xv1] 27)).alloc (.cells #[.int .i64 o2, .int .i64 f2, .int .i64 n2, .string nm2, tv2, .int .i32 b, .string s2, xv2] 27)) := ((Below.refl _ _).alloc (Nat.le_refl _) _).alloc (by simp) _
  rw [← hV, ← hT]
  all_goals by_cases h4 : f = 4
  all_goals
    simp [biI, h4] at hV
    simp [biB, h4] at hT
    clear hF
    try subst h4
    have HV := Lib.hid hV
    have HT := Lib.hid hT
    have HD := Lib.hid hD
    clear hV hT hD
    go_enter Try.func27, Try.ntmps27
    go_wp2_with fail
    go_quiet (fail)
    go_wp2_with (first | (go_at_call 38; refine (sets_any _ _ _ _ (by unfold isBi; omega)).mono ?_; rintro en w2 ⟨rfl, rfl⟩) | (go_at_call 37; refine (truth_any _ _).mono ?_; rintro en w2 ⟨rfl, rfl⟩) | (go_at_call 47; refine (compare_any _ _ F _ _ (by omega)).mono ?_; rintro en w2 ⟨rfl, rfl⟩) | (go_at_call 39; refine (add_any _ _ _).mono ?_; rintro en w2 ⟨rfl, rfl⟩) | (go_at_call 36; refine (sub_any _ _ _).mono ?_; rintro en w2 ⟨rfl, rfl⟩) | (go_at_call 40; refine (mul_any _ _ _).mono ?_; rintro en w2 ⟨rfl, rfl⟩) | (go_at_call 41; refine (div_yes _ _ _ (by omega) (by omega) (by omega)).mono ?_; rintro en w2 ⟨rfl, rfl⟩) | (go_at_call 41; refine (div_no _ _ _ (by omega)).mono ?_; rintro en w2 ⟨rfl, rfl⟩) | (go_at_call 42; refine (mod_yes _ _ _ (by omega) (by omega)).mono ?_; rintro en w2 ⟨rfl, rfl⟩) | (go_at_call 42; refine (mod_no _ _ _ (by omega)).mono ?_; rintro en w2 ⟨rfl, rfl⟩) | (go_at_call 43; refine (has_any _ _ _).mono ?_; rintro en w2 ⟨rfl, rfl⟩) | (go_at_call 44; refine (lsl_any _ _ _).mono ?_; rintro en w2 ⟨rfl, rfl⟩) | (go_at_call 45; refine (asr_any _ _ _).mono ?_; rintro en w2 ⟨rfl, rfl⟩) | (go_at_call 46; refine (ror_any _ _ _).mono ?_; rintro en w2 ⟨rfl, rfl⟩))
    all_goals (try go_ret2)
    all_goals exact ⟨by rw [HV.out, HT.out]; first | rfl | (rw [show (b != 0) = true from by simp [hb0]]; rfl) | (rw [show (b != 0) = true from by simp [hb0], show (a != 0) = true from by simp [ha0]]; rfl) | (simp [biI]; rfl), below_drewN HD.out _⟩
theorem two_prog (w : World) (op : Int) (e1 e2 : Ex) (tv1 xv1 tv2 xv2 : Value) (ha : -2147483648 ≤ e1.i ∧ e1.i ≤ 2147483647) (hb : -2147483648 ≤ e2.i ∧ e2.i ≤ 2147483647) (ho : isBi op) : Calls Try.prog 27 #[.int .i64 op, exV e1 tv1 xv1, exV e2 tv2 xv2] w fun en w' => en = .returned (.tuple #[.int .i32 (biI op e1.t.form e1.i e2.i), .bool (biB op e1.t.form e2.i)]) ∧ Below w.heap.size w w' := by
  unfold isBi at ho
  rcases (by omega : op = 9 ∨ op = 10 ∨ op = 11 ∨ op = 12 ∨ op = 13 ∨ op = 14 ∨ op = 15 ∨ op = 16 ∨ op = 17 ∨ op = 18 ∨ op = 19 ∨ op = 20 ∨ op = 21 ∨ op = 22 ∨ op = 29 ∨ op = 30 ∨ op = 31) with rfl | rfl | rfl | rfl | rfl | rfl | rfl | rfl | rfl | rfl | rfl | rfl | rfl | rfl | rfl | rfl | rfl
  · exact two_9 w _ _ _ _ _ _ _ _ _ _ _ _ _ _ _ _ ha hb
  · exact two_10 w _ _ _ _ _ _ _ _ _ _ _ _ _ _ _ _ ha hb
  · exact two_11 w _ _ _ _ _ _ _ _ _ _ _ _ _ _ _ _ ha hb
  · exact two_12 w _ _ _ _ _ _ _ _ _ _ _ _ _ _ _ _ ha hb
  · exact two_13 w _ _ _ _ _ _ _ _ _ _ _ _ _ _ _ _ ha hb
  · exact two_14 w _ _ _ _ _ _ _ _ _ _ _ _ _ _ _ _ ha hb
  · exact two_15 w _ _ _ _ _ _ _ _ _ _ _ _ _ _ _ _ ha hb
  · exact two_16 w _ _ _ _ _ _ _ _ _ _ _ _ _ _ _ _ ha hb
  · exact two_17 w _ _ _ _ _ _ _ _ _ _ _ _ _ _ _ _ ha hb
  · exact two_18 w _ _ _ _ _ _ _ _ _ _ _ _ _ _ _ _ ha hb
  · exact two_19 w _ _ _ _ _ _ _ _ _ _ _ _ _ _ _ _ ha hb
  · exact two_20 w _ _ _ _ _ _ _ _ _ _ _ _ _ _ _ _ ha hb
  · exact two_21 w _ _ _ _ _ _ _ _ _ _ _ _ _ _ _ _ ha hb
  · exact two_22 w _ _ _ _ _ _ _ _ _ _ _ _ _ _ _ _ ha hb
  · exact two_29 w _ _ _ _ _ _ _ _ _ _ _ _ _ _ _ _ ha hb
  · exact two_30 w _ _ _ _ _ _ _ _ _ _ _ _ _ _ _ _ ha hb
  · exact two_31 w _ _ _ _ _ _ _ _ _ _ _ _ _ _ _ _ ha hb
end Go.Proofs.Ytiikeilpgajmfaa
