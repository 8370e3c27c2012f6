/- Fold: two operands, by both. (Printed by gen_fd5.py.) -/
import Derived.Test.YtiikeilpgajmfaaFd4
namespace Go.Proofs.Ytiikeilpgajmfaa
open Go.RowKit Go.Waf
set_option maxRecDepth 100000
set_option linter.unusedVariables false
set_option linter.unusedSimpArgs false

def biI (op f a b : Int) : Int :=
  if op = 9 then (if f = 4 then bits .or .i32 a b else wrap32 (a + b)) else
  if op = 10 then (if f = 4 then bits .andNot .i32 a b else wrap32 (a - b)) else
  if op = 11 then (if f = 4 then bits .and .i32 a b else wrap32 (a * b)) else
  if op = 12 then (if f = 4 then bits .xor .i32 a b else if 1 ≤ b then a / b else 0) else
  if op = 13 then (if 1 ≤ b then a % b else 0) else
  if op = 14 then tI (decide (¬ a = 0 ∨ ¬ b = 0)) else if op = 15 then tI (decide (¬ a = 0 ∧ ¬ b = 0)) else
  if op = 16 then tI (a == b) else if op = 17 then tI (a != b) else if op = 18 then tI (decide (a < b)) else if op = 19 then tI (decide (a ≤ b)) else if op = 20 then tI (decide (b < a)) else if op = 21 then tI (decide (b ≤ a)) else
  if op = 22 then tI (hasBit a b) else if op = 29 then wrap32 (a * 2 ^ (b % 32).toNat) else if op = 30 then a / 2 ^ (b % 32).toNat else ror a b
def biB (op f b : Int) : Bool := if op = 12 then (decide (f = 4) || decide (1 ≤ b)) else if op = 13 then decide (1 ≤ b) else true
def isBi (op : Int) : Prop := (9 ≤ op ∧ op ≤ 22) ∨ (29 ≤ op ∧ op ≤ 31)
def seI (op a b : Int) : Int := if op = 9 then bits .or .i32 a b else if op = 10 then bits .andNot .i32 a b else if op = 11 then bits .and .i32 a b else if op = 12 then bits .xor .i32 a b else 0
def seB (op : Int) : Bool := decide (9 ≤ op ∧ op ≤ 12)
set_option maxHeartbeats 6400000 in
theorem sets_any (w : World) (op a b : Int) (ho : isBi op) : Calls Try.prog 38 #[.int .i64 op, .int .i32 a, .int .i32 b] w fun en w' => en = .returned (.tuple #[.int .i32 (seI op a b), .bool (seB op)]) ∧ w = w' := by
  unfold isBi at ho
  rcases (by omega : op = 9 ∨ op = 10 ∨ op = 11 ∨ op = 12 ∨ op = 13 ∨ op = 14 ∨ op = 15 ∨ op = 16 ∨ op = 17 ∨ op = 18 ∨ op = 19 ∨ op = 20 ∨ op = 21 ∨ op = 22 ∨ op = 29 ∨ op = 30 ∨ op = 31) with rfl | rfl | rfl | rfl | rfl | rfl | rfl | rfl | rfl | rfl | rfl | rfl | rfl | rfl | rfl | rfl | rfl
  all_goals
    clear ho
    simp only [seI, seB]
    go_enter Try.func38, Try.ntmps38
    go_wp2_with fail
    go_ret2
    exact ⟨rfl, rfl⟩
set_option maxHeartbeats 6400000 in
theorem compare_any (w : World) (op f a b : Int) (ho : 16 ≤ op ∧ op ≤ 21) : Calls Try.prog 47 #[.int .i64 op, .int .i32 a, .int .i32 b] w fun en w' => en = .returned (.int .i32 (biI op f a b)) ∧ w = w' := by
  obtain ⟨V, hV⟩ : ∃ V, V = biI op f a b := ⟨_, rfl⟩
  rw [← hV]
  rcases (by omega : op = 16 ∨ op = 17 ∨ op = 18 ∨ op = 19 ∨ op = 20 ∨ op = 21) with rfl | rfl | rfl | rfl | rfl | rfl
  all_goals
    clear ho
    simp [biI] at hV
    have HV := Lib.hid hV
    clear hV
    go_enter Try.func47, Try.ntmps47
    go_wp2_with (first | (go_at_call 37; refine (truth_any _ _).mono ?_; rintro en w2 ⟨rfl, rfl⟩))
    go_ret
    exact ⟨by rw [HV.out]; rfl, rfl⟩
set_option maxHeartbeats 6400000 in
theorem bin_9 (w : World) (f a b : Int) (ha : -2147483648 ≤ a ∧ a ≤ 2147483647) (hb : -2147483648 ≤ b ∧ b ≤ 2147483647) : Calls Try.prog 52 #[.int .i64 9, .int .i64 f, .int .i32 a, .int .i32 b] w fun en w' => en = .returned (.tuple #[.int .i32 (biI 9 f a b), .bool (biB 9 f b)]) ∧ w = w' := by
  obtain ⟨V, hV⟩ : ∃ V, V = biI 9 f a b := ⟨_, rfl⟩
  obtain ⟨T, hT⟩ : ∃ T, T = biB 9 f b := ⟨_, rfl⟩
  rw [← hV, ← hT]
  all_goals by_cases h4 : f = 4
  all_goals
    simp [biI, h4] at hV
    simp [biB, h4] at hT
    try subst h4
    have HV := Lib.hid hV
    have HT := Lib.hid hT
    clear hV hT
    go_enter Try.func52, Try.ntmps52
    go_wp2_with (first | (go_at_call 63; refine (flag_any _ _).mono ?_; rintro en w2 ⟨rfl, rfl⟩) | (go_at_call 61; refine (rdiv_yes _ _ _ (by omega) (by omega) (by omega) (by omega)).mono ?_; rintro en w2 ⟨rfl, rfl⟩) | (go_at_call 61; refine (rdiv_no _ _ _ (by omega)).mono ?_; rintro en w2 ⟨rfl, rfl⟩) | (go_at_call 62; refine (rmod_yes _ _ _ (by omega) (by omega) (by omega) (by omega)).mono ?_; rintro en w2 ⟨rfl, rfl⟩) | (go_at_call 62; refine (rmod_no _ _ _ (by omega)).mono ?_; rintro en w2 ⟨rfl, rfl⟩) | (go_at_call 64; refine (rhas_any _ _ _ (by omega) (by omega)).mono ?_; rintro en w2 ⟨rfl, rfl⟩) | (go_at_call 65; refine (rlsl_any _ _ _).mono ?_; rintro en w2 ⟨rfl, rfl⟩) | (go_at_call 66; refine (rasr_any _ _ _).mono ?_; rintro en w2 ⟨rfl, rfl⟩) | (go_at_call 67; refine (rror_any _ _ _).mono ?_; rintro en w2 ⟨rfl, rfl⟩))
    all_goals (try go_ret2)
    all_goals exact ⟨by rw [HV.out, HT.out]; first | rfl | (rw [show (b != 0) = true from by simp [hb0]]; rfl) | (rw [show (b != 0) = true from by simp [hb0], show (a != 0) = true from by simp [ha0]]; rfl), rfl⟩
set_option maxHeartbeats 6400000 in
theorem bin_10 (w : World) (f a b : Int) (ha : -2147483648 ≤ a ∧ a ≤ 2147483647) (hb : -2147483648 ≤ b ∧ b ≤ 2147483647) : Calls Try.prog 52 #[.int .i64 10, .int .i64 f, .int .i32 a, .int .i32 b] w fun en w' => en = .returned (.tuple #[.int .i32 (biI 10 f a b), .bool (biB 10 f b)]) ∧ w = w' := by
  obtain ⟨V, hV⟩ : ∃ V, V = biI 10 f a b := ⟨_, rfl⟩
  obtain ⟨T, hT⟩ : ∃ T, T = biB 10 f b := ⟨_, rfl⟩
  rw [← hV, ← hT]
  all_goals by_cases h4 : f = 4
  all_goals
    simp [biI, h4] at hV
    simp [biB, h4] at hT
    try subst h4
    have HV := Lib.hid hV
    have HT := Lib.hid hT
    clear hV hT
    go_enter Try.func52, Try.ntmps52
    go_wp2_with (first | (go_at_call 63; refine (flag_any _ _).mono ?_; rintro en w2 ⟨rfl, rfl⟩) | (go_at_call 61; refine (rdiv_yes _ _ _ (by omega) (by omega) (by omega) (by omega)).mono ?_; rintro en w2 ⟨rfl, rfl⟩) | (go_at_call 61; refine (rdiv_no _ _ _ (by omega)).mono ?_; rintro en w2 ⟨rfl, rfl⟩) | (go_at_call 62; refine (rmod_yes _ _ _ (by omega) (by omega) (by omega) (by omega)).mono ?_; rintro en w2 ⟨rfl, rfl⟩) | (go_at_call 62; refine (rmod_no _ _ _ (by omega)).mono ?_; rintro en w2 ⟨rfl, rfl⟩) | (go_at_call 64; refine (rhas_any _ _ _ (by omega) (by omega)).mono ?_; rintro en w2 ⟨rfl, rfl⟩) | (go_at_call 65; refine (rlsl_any _ _ _).mono ?_; rintro en w2 ⟨rfl, rfl⟩) | (go_at_call 66; refine (rasr_any _ _ _).mono ?_; rintro en w2 ⟨rfl, rfl⟩) | (go_at_call 67; refine (rror_any _ _ _).mono ?_; rintro en w2 ⟨rfl, rfl⟩))
    all_goals (try go_ret2)
    all_goals exact ⟨by rw [HV.out, HT.out]; first | rfl | (rw [show (b != 0) = true from by simp [hb0]]; rfl) | (rw [show (b != 0) = true from by simp [hb0], show (a != 0) = true from by simp [ha0]]; rfl), rfl⟩
set_option maxHeartbeats 6400000 in
theorem bin_11 (w : World) (f a b : Int) (ha : -2147483648 ≤ a ∧ a ≤ 2147483647) (hb : -2147483648 ≤ b ∧ b ≤ 2147483647) : Calls Try.prog 52 #[.int .i64 11, .int .i64 f, .int .i32 a, .int .i32 b] w fun en w' => en = .returned (.tuple #[.int .i32 (biI 11 f a b), .bool (biB 11 f b)]) ∧ w = w' := by
  obtain ⟨V, hV⟩ : ∃ V, V = biI 11 f a b := ⟨_, rfl⟩
  obtain ⟨T, hT⟩ : ∃ T, T = biB 11 f b := ⟨_, rfl⟩
  rw [← hV, ← hT]
  all_goals by_cases h4 : f = 4
  all_goals
    simp [biI, h4] at hV
    simp [biB, h4] at hT
    try subst h4
    have HV := Lib.hid hV
    have HT := Lib.hid hT
    clear hV hT
    go_enter Try.func52, Try.ntmps52
    go_wp2_with (first | (go_at_call 63; refine (flag_any _ _).mono ?_; rintro en w2 ⟨rfl, rfl⟩) | (go_at_call 61; refine (rdiv_yes _ _ _ (by omega) (by omega) (by omega) (by omega)).mono ?_; rintro en w2 ⟨rfl, rfl⟩) | (go_at_call 61; refine (rdiv_no _ _ _ (by omega)).mono ?_; rintro en w2 ⟨rfl, rfl⟩) | (go_at_call 62; refine (rmod_yes _ _ _ (by omega) (by omega) (by omega) (by omega)).mono ?_; rintro en w2 ⟨rfl, rfl⟩) | (go_at_call 62; refine (rmod_no _ _ _ (by omega)).mono ?_; rintro en w2 ⟨rfl, rfl⟩) | (go_at_call 64; refine (rhas_any _ _ _ (by omega) (by omega)).mono ?_; rintro en w2 ⟨rfl, rfl⟩) | (go_at_call 65; refine (rlsl_any _ _ _).mono ?_; rintro en w2 ⟨rfl, rfl⟩) | (go_at_call 66; refine (rasr_any _ _ _).mono ?_; rintro en w2 ⟨rfl, rfl⟩) | (go_at_call 67; refine (rror_any _ _ _).mono ?_; rintro en w2 ⟨rfl, rfl⟩))
    all_goals (try go_ret2)
    all_goals exact ⟨by rw [HV.out, HT.out]; first | rfl | (rw [show (b != 0) = true from by simp [hb0]]; rfl) | (rw [show (b != 0) = true from by simp [hb0], show (a != 0) = true from by simp [ha0]]; rfl), rfl⟩
set_option maxHeartbeats 6400000 in
theorem bin_12 (w : World) (f a b : Int) (ha : -2147483648 ≤ a ∧ a ≤ 2147483647) (hb : -2147483648 ≤ b ∧ b ≤ 2147483647) : Calls Try.prog 52 #[.int .i64 12, .int .i64 f, .int .i32 a, .int .i32 b] w fun en w' => en = .returned (.tuple #[.int .i32 (biI 12 f a b), .bool (biB 12 f b)]) ∧ w = w' := by
  obtain ⟨V, hV⟩ : ∃ V, V = biI 12 f a b := ⟨_, rfl⟩
  obtain ⟨T, hT⟩ : ∃ T, T = biB 12 f b := ⟨_, rfl⟩
  rw [← hV, ← hT]
  all_goals by_cases h4 : f = 4
  all_goals by_cases hb1 : 1 ≤ b
  all_goals
    simp [biI, h4, hb1] at hV
    simp [biB, h4, hb1] at hT
    try subst h4
    have HV := Lib.hid hV
    have HT := Lib.hid hT
    clear hV hT
    go_enter Try.func52, Try.ntmps52
    go_wp2_with (first | (go_at_call 63; refine (flag_any _ _).mono ?_; rintro en w2 ⟨rfl, rfl⟩) | (go_at_call 61; refine (rdiv_yes _ _ _ (by omega) (by omega) (by omega) (by omega)).mono ?_; rintro en w2 ⟨rfl, rfl⟩) | (go_at_call 61; refine (rdiv_no _ _ _ (by omega)).mono ?_; rintro en w2 ⟨rfl, rfl⟩) | (go_at_call 62; refine (rmod_yes _ _ _ (by omega) (by omega) (by omega) (by omega)).mono ?_; rintro en w2 ⟨rfl, rfl⟩) | (go_at_call 62; refine (rmod_no _ _ _ (by omega)).mono ?_; rintro en w2 ⟨rfl, rfl⟩) | (go_at_call 64; refine (rhas_any _ _ _ (by omega) (by omega)).mono ?_; rintro en w2 ⟨rfl, rfl⟩) | (go_at_call 65; refine (rlsl_any _ _ _).mono ?_; rintro en w2 ⟨rfl, rfl⟩) | (go_at_call 66; refine (rasr_any _ _ _).mono ?_; rintro en w2 ⟨rfl, rfl⟩) | (go_at_call 67; refine (rror_any _ _ _).mono ?_; rintro en w2 ⟨rfl, rfl⟩))
    all_goals (try go_ret2)
    all_goals exact ⟨by rw [HV.out, HT.out]; first | rfl | (rw [show (b != 0) = true from by simp [hb0]]; rfl) | (rw [show (b != 0) = true from by simp [hb0], show (a != 0) = true from by simp [ha0]]; rfl), rfl⟩
set_option maxHeartbeats 6400000 in
theorem bin_13 (w : World) (f a b : Int) (ha : -2147483648 ≤ a ∧ a ≤ 2147483647) (hb : -2147483648 ≤ b ∧ b ≤ 2147483647) : Calls Try.prog 52 #[.int .i64 13, .int .i64 f, .int .i32 a, .int .i32 b] w fun en w' => en = .returned (.tuple #[.int .i32 (biI 13 f a b), .bool (biB 13 f b)]) ∧ w = w' := by
  obtain ⟨V, hV⟩ : ∃ V, V = biI 13 f a b := ⟨_, rfl⟩
  obtain ⟨T, hT⟩ : ∃ T, T = biB 13 f b := ⟨_, rfl⟩
  rw [← hV, ← hT]
  all_goals by_cases hb1 : 1 ≤ b
  all_goals
    simp [biI, hb1] at hV
    simp [biB, hb1] at hT
    have HV := Lib.hid hV
    have HT := Lib.hid hT
    clear hV hT
    go_enter Try.func52, Try.ntmps52
    go_wp2_with (first | (go_at_call 63; refine (flag_any _ _).mono ?_; rintro en w2 ⟨rfl, rfl⟩) | (go_at_call 61; refine (rdiv_yes _ _ _ (by omega) (by omega) (by omega) (by omega)).mono ?_; rintro en w2 ⟨rfl, rfl⟩) | (go_at_call 61; refine (rdiv_no _ _ _ (by omega)).mono ?_; rintro en w2 ⟨rfl, rfl⟩) | (go_at_call 62; refine (rmod_yes _ _ _ (by omega) (by omega) (by omega) (by omega)).mono ?_; rintro en w2 ⟨rfl, rfl⟩) | (go_at_call 62; refine (rmod_no _ _ _ (by omega)).mono ?_; rintro en w2 ⟨rfl, rfl⟩) | (go_at_call 64; refine (rhas_any _ _ _ (by omega) (by omega)).mono ?_; rintro en w2 ⟨rfl, rfl⟩) | (go_at_call 65; refine (rlsl_any _ _ _).mono ?_; rintro en w2 ⟨rfl, rfl⟩) | (go_at_call 66; refine (rasr_any _ _ _).mono ?_; rintro en w2 ⟨rfl, rfl⟩) | (go_at_call 67; refine (rror_any _ _ _).mono ?_; rintro en w2 ⟨rfl, rfl⟩))
    all_goals (try go_ret2)
    all_goals exact ⟨by rw [HV.out, HT.out]; first | rfl | (rw [show (b != 0) = true from by simp [hb0]]; rfl) | (rw [show (b != 0) = true from by simp [hb0], show (a != 0) = true from by simp [ha0]]; rfl), rfl⟩
set_option maxHeartbeats 6400000 in
theorem bin_14 (w : World) (f a b : Int) (ha : -2147483648 ≤ a ∧ a ≤ 2147483647) (hb : -2147483648 ≤ b ∧ b ≤ 2147483647) : Calls Try.prog 52 #[.int .i64 14, .int .i64 f, .int .i32 a, .int .i32 b] w fun en w' => en = .returned (.tuple #[.int .i32 (biI 14 f a b), .bool (biB 14 f b)]) ∧ w = w' := by
  obtain ⟨V, hV⟩ : ∃ V, V = biI 14 f a b := ⟨_, rfl⟩
  obtain ⟨T, hT⟩ : ∃ T, T = biB 14 f b := ⟨_, rfl⟩
  rw [← hV, ← hT]
  all_goals by_cases ha0 : a = 0
  all_goals by_cases hb0 : b = 0
  all_goals
    simp [biI, ha0, hb0] at hV
    simp [biB, ha0, hb0] at hT
    try subst ha0
    try subst hb0
    have HV := Lib.hid hV
    have HT := Lib.hid hT
    clear hV hT
    go_enter Try.func52, Try.ntmps52
    go_wp2_with (first | (go_at_call 63; refine (flag_any _ _).mono ?_; rintro en w2 ⟨rfl, rfl⟩) | (go_at_call 61; refine (rdiv_yes _ _ _ (by omega) (by omega) (by omega) (by omega)).mono ?_; rintro en w2 ⟨rfl, rfl⟩) | (go_at_call 61; refine (rdiv_no _ _ _ (by omega)).mono ?_; rintro en w2 ⟨rfl, rfl⟩) | (go_at_call 62; refine (rmod_yes _ _ _ (by omega) (by omega) (by omega) (by omega)).mono ?_; rintro en w2 ⟨rfl, rfl⟩) | (go_at_call 62; refine (rmod_no _ _ _ (by omega)).mono ?_; rintro en w2 ⟨rfl, rfl⟩) | (go_at_call 64; refine (rhas_any _ _ _ (by omega) (by omega)).mono ?_; rintro en w2 ⟨rfl, rfl⟩) | (go_at_call 65; refine (rlsl_any _ _ _).mono ?_; rintro en w2 ⟨rfl, rfl⟩) | (go_at_call 66; refine (rasr_any _ _ _).mono ?_; rintro en w2 ⟨rfl, rfl⟩) | (go_at_call 67; refine (rror_any _ _ _).mono ?_; rintro en w2 ⟨rfl, rfl⟩))
    all_goals (try go_ret2)
    all_goals exact ⟨by rw [HV.out, HT.out]; first | rfl | (rw [show (b != 0) = true from by simp [hb0]]; rfl) | (rw [show (b != 0) = true from by simp [hb0], show (a != 0) = true from by simp [ha0]]; rfl), rfl⟩
set_option maxHeartbeats 6400000 in
theorem bin_15 (w : World) (f a b : Int) (ha : -2147483648 ≤ a ∧ a ≤ 2147483647) (hb : -2147483648 ≤ b ∧ b ≤ 2147483647) : Calls Try.prog 52 #[.int .i64 15, .int .i64 f, .int .i32 a, .int .i32 b] w fun en w' => en = .returned (.tuple #[.int .i32 (biI 15 f a b), .bool (biB 15 f b)]) ∧ w = w' := by
  obtain ⟨V, hV⟩ : ∃ V, V = biI 15 f a b := ⟨_, rfl⟩
  obtain ⟨T, hT⟩ : ∃ T, T = biB 15 f b := ⟨_, rfl⟩
  rw [← hV, ← hT]
  all_goals by_cases ha0 : a = 0
  all_goals by_cases hb0 : b = 0
  all_goals
    simp [biI, ha0, hb0] at hV
    simp [biB, ha0, hb0] at hT
    try subst ha0
    try subst hb0
    have HV := Lib.hid hV
    have HT := Lib.hid hT
    clear hV hT
    go_enter Try.func52, Try.ntmps52
    go_wp2_with (first | (go_at_call 63; refine (flag_any _ _).mono ?_; rintro en w2 ⟨rfl, rfl⟩) | (go_at_call 61; refine (rdiv_yes _ _ _ (by omega) (by omega) (by omega) (by omega)).mono ?_; rintro en w2 ⟨rfl, rfl⟩) | (go_at_call 61; refine (rdiv_no _ _ _ (by omega)).mono ?_; rintro en w2 ⟨rfl, rfl⟩) | (go_at_call 62; refine (rmod_yes _ _ _ (by omega) (by omega) (by omega) (by omega)).mono ?_; rintro en w2 ⟨rfl, rfl⟩) | (go_at_call 62; refine (rmod_no _ _ _ (by omega)).mono ?_; rintro en w2 ⟨rfl, rfl⟩) | (go_at_call 64; refine (rhas_any _ _ _ (by omega) (by omega)).mono ?_; rintro en w2 ⟨rfl, rfl⟩) | (go_at_call 65; refine (rlsl_any _ _ _).mono ?_; rintro en w2 ⟨rfl, rfl⟩) | (go_at_call 66; refine (rasr_any _ _ _).mono ?_; rintro en w2 ⟨rfl, rfl⟩) | (go_at_call 67; refine (rror_any _ _ _).mono ?_; rintro en w2 ⟨rfl, rfl⟩))
    all_goals (try go_ret2)
    all_goals exact ⟨by rw [HV.out, HT.out]; first | rfl | (rw [show (b != 0) = true from by simp [hb0]]; rfl) | (rw [show (b != 0) = true from by simp [hb0], show (a != 0) = true from by simp [ha0]]; rfl), rfl⟩
set_option maxHeartbeats 6400000 in
theorem bin_16 (w : World) (f a b : Int) (ha : -2147483648 ≤ a ∧ a ≤ 2147483647) (hb : -2147483648 ≤ b ∧ b ≤ 2147483647) : Calls Try.prog 52 #[.int .i64 16, .int .i64 f, .int .i32 a, .int .i32 b] w fun en w' => en = .returned (.tuple #[.int .i32 (biI 16 f a b), .bool (biB 16 f b)]) ∧ w = w' := by
  obtain ⟨V, hV⟩ : ∃ V, V = biI 16 f a b := ⟨_, rfl⟩
  obtain ⟨T, hT⟩ : ∃ T, T = biB 16 f b := ⟨_, rfl⟩
  rw [← hV, ← hT]
  all_goals
    simp [biI] at hV
    simp [biB] at hT
    have HV := Lib.hid hV
    have HT := Lib.hid hT
    clear hV hT
    go_enter Try.func52, Try.ntmps52
    go_wp2_with (first | (go_at_call 63; refine (flag_any _ _).mono ?_; rintro en w2 ⟨rfl, rfl⟩) | (go_at_call 61; refine (rdiv_yes _ _ _ (by omega) (by omega) (by omega) (by omega)).mono ?_; rintro en w2 ⟨rfl, rfl⟩) | (go_at_call 61; refine (rdiv_no _ _ _ (by omega)).mono ?_; rintro en w2 ⟨rfl, rfl⟩) | (go_at_call 62; refine (rmod_yes _ _ _ (by omega) (by omega) (by omega) (by omega)).mono ?_; rintro en w2 ⟨rfl, rfl⟩) | (go_at_call 62; refine (rmod_no _ _ _ (by omega)).mono ?_; rintro en w2 ⟨rfl, rfl⟩) | (go_at_call 64; refine (rhas_any _ _ _ (by omega) (by omega)).mono ?_; rintro en w2 ⟨rfl, rfl⟩) | (go_at_call 65; refine (rlsl_any _ _ _).mono ?_; rintro en w2 ⟨rfl, rfl⟩) | (go_at_call 66; refine (rasr_any _ _ _).mono ?_; rintro en w2 ⟨rfl, rfl⟩) | (go_at_call 67; refine (rror_any _ _ _).mono ?_; rintro en w2 ⟨rfl, rfl⟩))
    all_goals (try go_ret2)
    all_goals exact ⟨by rw [HV.out, HT.out]; first | rfl | (rw [show (b != 0) = true from by simp [hb0]]; rfl) | (rw [show (b != 0) = true from by simp [hb0], show (a != 0) = true from by simp [ha0]]; rfl), rfl⟩
set_option maxHeartbeats 6400000 in
theorem bin_17 (w : World) (f a b : Int) (ha : -2147483648 ≤ a ∧ a ≤ 2147483647) (hb : -2147483648 ≤ b ∧ b ≤ 2147483647) : Calls Try.prog 52 #[.int .i64 17, .int .i64 f, .int .i32 a, .int .i32 b] w fun en w' => en = .returned (.tuple #[.int .i32 (biI 17 f a b), .bool (biB 17 f b)]) ∧ w = w' := by
  obtain ⟨V, hV⟩ : ∃ V, V = biI 17 f a b := ⟨_, rfl⟩
  obtain ⟨T, hT⟩ : ∃ T, T = biB 17 f b := ⟨_, rfl⟩
  rw [← hV, ← hT]
  all_goals
    simp [biI] at hV
    simp [biB] at hT
    have HV := Lib.hid hV
    have HT := Lib.hid hT
    clear hV hT
    go_enter Try.func52, Try.ntmps52
    go_wp2_with (first | (go_at_call 63; refine (flag_any _ _).mono ?_; rintro en w2 ⟨rfl, rfl⟩) | (go_at_call 61; refine (rdiv_yes _ _ _ (by omega) (by omega) (by omega) (by omega)).mono ?_; rintro en w2 ⟨rfl, rfl⟩) | (go_at_call 61; refine (rdiv_no _ _ _ (by omega)).mono ?_; rintro en w2 ⟨rfl, rfl⟩) | (go_at_call 62; refine (rmod_yes _ _ _ (by omega) (by omega) (by omega) (by omega)).mono ?_; rintro en w2 ⟨rfl, rfl⟩) | (go_at_call 62; refine (rmod_no _ _ _ (by omega)).mono ?_; rintro en w2 ⟨rfl, rfl⟩) | (go_at_call 64; refine (rhas_any _ _ _ (by omega) (by omega)).mono ?_; rintro en w2 ⟨rfl, rfl⟩) | (go_at_call 65; refine (rlsl_any _ _ _).mono ?_; rintro en w2 ⟨rfl, rfl⟩) | (go_at_call 66; refine (rasr_any _ _ _).mono ?_; rintro en w2 ⟨rfl, rfl⟩) | (go_at_call 67; refine (rror_any _ _ _).mono ?_; rintro en w2 ⟨rfl, rfl⟩))
    all_goals (try go_ret2)
    all_goals exact ⟨by rw [HV.out, HT.out]; first | rfl | (rw [show (b != 0) = true from by simp [hb0]]; rfl) | (rw [show (b != 0) = true from by simp [hb0], show (a != 0) = true from by simp [ha0]]; rfl), rfl⟩
set_option maxHeartbeats 6400000 in
theorem bin_18 (w : World) (f a b : Int) (ha : -2147483648 ≤ a ∧ a ≤ 2147483647) (hb : -2147483648 ≤ b ∧ b ≤ 2147483647) : Calls Try.prog 52 #[.int .i64 18, .int .i64 f, .int .i32 a, .int .i32 b] w fun en w' => en = .returned (.tuple #[.int .i32 (biI 18 f a b), .bool (biB 18 f b)]) ∧ w = w' := by
  obtain ⟨V, hV⟩ : ∃ V, V = biI 18 f a b := ⟨_, rfl⟩
  obtain ⟨T, hT⟩ : ∃ T, T = biB 18 f b := ⟨_, rfl⟩
  rw [← hV, ← hT]
  all_goals
    simp [biI] at hV
    simp [biB] at hT
    have HV := Lib.hid hV
    have HT := Lib.hid hT
    clear hV hT
    go_enter Try.func52, Try.ntmps52
    go_wp2_with (first | (go_at_call 63; refine (flag_any _ _).mono ?_; rintro en w2 ⟨rfl, rfl⟩) | (go_at_call 61; refine (rdiv_yes _ _ _ (by omega) (by omega) (by omega) (by omega)).mono ?_; rintro en w2 ⟨rfl, rfl⟩) | (go_at_call 61; refine (rdiv_no _ _ _ (by omega)).mono ?_; rintro en w2 ⟨rfl, rfl⟩) | (go_at_call 62; refine (rmod_yes _ _ _ (by omega) (by omega) (by omega) (by omega)).mono ?_; rintro en w2 ⟨rfl, rfl⟩) | (go_at_call 62; refine (rmod_no _ _ _ (by omega)).mono ?_; rintro en w2 ⟨rfl, rfl⟩) | (go_at_call 64; refine (rhas_any _ _ _ (by omega) (by omega)).mono ?_; rintro en w2 ⟨rfl, rfl⟩) | (go_at_call 65; refine (rlsl_any _ _ _).mono ?_; rintro en w2 ⟨rfl, rfl⟩) | (go_at_call 66; refine (rasr_any _ _ _).mono ?_; rintro en w2 ⟨rfl, rfl⟩) | (go_at_call 67; refine (rror_any _ _ _).mono ?_; rintro en w2 ⟨rfl, rfl⟩))
    all_goals (try go_ret2)
    all_goals exact ⟨by rw [HV.out, HT.out]; first | rfl | (rw [show (b != 0) = true from by simp [hb0]]; rfl) | (rw [show (b != 0) = true from by simp [hb0], show (a != 0) = true from by simp [ha0]]; rfl), rfl⟩
set_option maxHeartbeats 6400000 in
theorem bin_19 (w : World) (f a b : Int) (ha : -2147483648 ≤ a ∧ a ≤ 2147483647) (hb : -2147483648 ≤ b ∧ b ≤ 2147483647) : Calls Try.prog 52 #[.int .i64 19, .int .i64 f, .int .i32 a, .int .i32 b] w fun en w' => en = .returned (.tuple #[.int .i32 (biI 19 f a b), .bool (biB 19 f b)]) ∧ w = w' := by
  obtain ⟨V, hV⟩ : ∃ V, V = biI 19 f a b := ⟨_, rfl⟩
  obtain ⟨T, hT⟩ : ∃ T, T = biB 19 f b := ⟨_, rfl⟩
  rw [← hV, ← hT]
  all_goals
    simp [biI] at hV
    simp [biB] at hT
    have HV := Lib.hid hV
    have HT := Lib.hid hT
    clear hV hT
    go_enter Try.func52, Try.ntmps52
    go_wp2_with (first | (go_at_call 63; refine (flag_any _ _).mono ?_; rintro en w2 ⟨rfl, rfl⟩) | (go_at_call 61; refine (rdiv_yes _ _ _ (by omega) (by omega) (by omega) (by omega)).mono ?_; rintro en w2 ⟨rfl, rfl⟩) | (go_at_call 61; refine (rdiv_no _ _ _ (by omega)).mono ?_; rintro en w2 ⟨rfl, rfl⟩) | (go_at_call 62; refine (rmod_yes _ _ _ (by omega) (by omega) (by omega) (by omega)).mono ?_; rintro en w2 ⟨rfl, rfl⟩) | (go_at_call 62; refine (rmod_no _ _ _ (by omega)).mono ?_; rintro en w2 ⟨rfl, rfl⟩) | (go_at_call 64; refine (rhas_any _ _ _ (by omega) (by omega)).mono ?_; rintro en w2 ⟨rfl, rfl⟩) | (go_at_call 65; refine (rlsl_any _ _ _).mono ?_; rintro en w2 ⟨rfl, rfl⟩) | (go_at_call 66; refine (rasr_any _ _ _).mono ?_; rintro en w2 ⟨rfl, rfl⟩) | (go_at_call 67; refine (rror_any _ _ _).mono ?_; rintro en w2 ⟨rfl, rfl⟩))
    all_goals (try go_ret2)
    all_goals exact ⟨by rw [HV.out, HT.out]; first | rfl | (rw [show (b != 0) = true from by simp [hb0]]; rfl) | (rw [show (b != 0) = true from by simp [hb0], show (a != 0) = true from by simp [ha0]]; rfl), rfl⟩
set_option maxHeartbeats 6400000 in
theorem bin_20 (w : World) (f a b : Int) (ha : -2147483648 ≤ a ∧ a ≤ 2147483647) (hb : -2147483648 ≤ b ∧ b ≤ 2147483647) : Calls Try.prog 52 #[.int .i64 20, .int .i64 f, .int .i32 a, .int .i32 b] w fun en w' => en = .returned (.tuple #[.int .i32 (biI 20 f a b), .bool (biB 20 f b)]) ∧ w = w' := by
  obtain ⟨V, hV⟩ : ∃ V, V = biI 20 f a b := ⟨_, rfl⟩
  obtain ⟨T, hT⟩ : ∃ T, T = biB 20 f b := ⟨_, rfl⟩
  rw [← hV, ← hT]
  all_goals
    simp [biI] at hV
    simp [biB] at hT
    have HV := Lib.hid hV
    have HT := Lib.hid hT
    clear hV hT
    go_enter Try.func52, Try.ntmps52
    go_wp2_with (first | (go_at_call 63; refine (flag_any _ _).mono ?_; rintro en w2 ⟨rfl, rfl⟩) | (go_at_call 61; refine (rdiv_yes _ _ _ (by omega) (by omega) (by omega) (by omega)).mono ?_; rintro en w2 ⟨rfl, rfl⟩) | (go_at_call 61; refine (rdiv_no _ _ _ (by omega)).mono ?_; rintro en w2 ⟨rfl, rfl⟩) | (go_at_call 62; refine (rmod_yes _ _ _ (by omega) (by omega) (by omega) (by omega)).mono ?_; rintro en w2 ⟨rfl, rfl⟩) | (go_at_call 62; refine (rmod_no _ _ _ (by omega)).mono ?_; rintro en w2 ⟨rfl, rfl⟩) | (go_at_call 64; refine (rhas_any _ _ _ (by omega) (by omega)).mono ?_; rintro en w2 ⟨rfl, rfl⟩) | (go_at_call 65; refine (rlsl_any _ _ _).mono ?_; rintro en w2 ⟨rfl, rfl⟩) | (go_at_call 66; refine (rasr_any _ _ _).mono ?_; rintro en w2 ⟨rfl, rfl⟩) | (go_at_call 67; refine (rror_any _ _ _).mono ?_; rintro en w2 ⟨rfl, rfl⟩))
    all_goals (try go_ret2)
    all_goals exact ⟨by rw [HV.out, HT.out]; first | rfl | (rw [show (b != 0) = true from by simp [hb0]]; rfl) | (rw [show (b != 0) = true from by simp [hb0], show (a != 0) = true from by simp [ha0]]; rfl), rfl⟩
set_option maxHeartbeats 6400000 in
theorem bin_21 (w : World) (f a b : Int) (ha : -2147483648 ≤ a ∧ a ≤ 2147483647) (hb : -2147483648 ≤ b ∧ b ≤ 2147483647) : Calls Try.prog 52 #[.int .i64 21, .int .i64 f, .int .i32 a, .int .i32 b] w fun en w' => en = .returned (.tuple #[.int .i32 (biI 21 f a b), .bool (biB 21 f b)]) ∧ w = w' := by
  obtain ⟨V, hV⟩ : ∃ V, V = biI 21 f a b := ⟨_, rfl⟩
  obtain ⟨T, hT⟩ : ∃ T, T = biB 21 f b := ⟨_, rfl⟩
  rw [← hV, ← hT]
  all_goals
    simp [biI] at hV
    simp [biB] at hT
    have HV := Lib.hid hV
    have HT := Lib.hid hT
    clear hV hT
    go_enter Try.func52, Try.ntmps52
    go_wp2_with (first | (go_at_call 63; refine (flag_any _ _).mono ?_; rintro en w2 ⟨rfl, rfl⟩) | (go_at_call 61; refine (rdiv_yes _ _ _ (by omega) (by omega) (by omega) (by omega)).mono ?_; rintro en w2 ⟨rfl, rfl⟩) | (go_at_call 61; refine (rdiv_no _ _ _ (by omega)).mono ?_; rintro en w2 ⟨rfl, rfl⟩) | (go_at_call 62; refine (rmod_yes _ _ _ (by omega) (by omega) (by omega) (by omega)).mono ?_; rintro en w2 ⟨rfl, rfl⟩) | (go_at_call 62; refine (rmod_no _ _ _ (by omega)).mono ?_; rintro en w2 ⟨rfl, rfl⟩) | (go_at_call 64; refine (rhas_any _ _ _ (by omega) (by omega)).mono ?_; rintro en w2 ⟨rfl, rfl⟩) | (go_at_call 65; refine (rlsl_any _ _ _).mono ?_; rintro en w2 ⟨rfl, rfl⟩) | (go_at_call 66; refine (rasr_any _ _ _).mono ?_; rintro en w2 ⟨rfl, rfl⟩) | (go_at_call 67; refine (rror_any _ _ _).mono ?_; rintro en w2 ⟨rfl, rfl⟩))
    all_goals (try go_ret2)
    all_goals exact ⟨by rw [HV.out, HT.out]; first | rfl | (rw [show (b != 0) = true from by simp [hb0]]; rfl) | (rw [show (b != 0) = true from by simp [hb0], show (a != 0) = true from by simp [ha0]]; rfl), rfl⟩
set_option maxHeartbeats 6400000 in
theorem bin_22 (w : World) (f a b : Int) (ha : -2147483648 ≤ a ∧ a ≤ 2147483647) (hb : -2147483648 ≤ b ∧ b ≤ 2147483647) : Calls Try.prog 52 #[.int .i64 22, .int .i64 f, .int .i32 a, .int .i32 b] w fun en w' => en = .returned (.tuple #[.int .i32 (biI 22 f a b), .bool (biB 22 f b)]) ∧ w = w' := by
  obtain ⟨V, hV⟩ : ∃ V, V = biI 22 f a b := ⟨_, rfl⟩
  obtain ⟨T, hT⟩ : ∃ T, T = biB 22 f b := ⟨_, rfl⟩
  rw [← hV, ← hT]
  all_goals
    simp [biI] at hV
    simp [biB] at hT
    have HV := Lib.hid hV
    have HT := Lib.hid hT
    clear hV hT
    go_enter Try.func52, Try.ntmps52
    go_wp2_with (first | (go_at_call 63; refine (flag_any _ _).mono ?_; rintro en w2 ⟨rfl, rfl⟩) | (go_at_call 61; refine (rdiv_yes _ _ _ (by omega) (by omega) (by omega) (by omega)).mono ?_; rintro en w2 ⟨rfl, rfl⟩) | (go_at_call 61; refine (rdiv_no _ _ _ (by omega)).mono ?_; rintro en w2 ⟨rfl, rfl⟩) | (go_at_call 62; refine (rmod_yes _ _ _ (by omega) (by omega) (by omega) (by omega)).mono ?_; rintro en w2 ⟨rfl, rfl⟩) | (go_at_call 62; refine (rmod_no _ _ _ (by omega)).mono ?_; rintro en w2 ⟨rfl, rfl⟩) | (go_at_call 64; refine (rhas_any _ _ _ (by omega) (by omega)).mono ?_; rintro en w2 ⟨rfl, rfl⟩) | (go_at_call 65; refine (rlsl_any _ _ _).mono ?_; rintro en w2 ⟨rfl, rfl⟩) | (go_at_call 66; refine (rasr_any _ _ _).mono ?_; rintro en w2 ⟨rfl, rfl⟩) | (go_at_call 67; refine (rror_any _ _ _).mono ?_; rintro en w2 ⟨rfl, rfl⟩))
    all_goals (try go_ret2)
    all_goals exact ⟨by rw [HV.out, HT.out]; first | rfl | (rw [show (b != 0) = true from by simp [hb0]]; rfl) | (rw [show (b != 0) = true from by simp [hb0], show (a != 0) = true from by simp [ha0]]; rfl), rfl⟩
set_option maxHeartbeats 6400000 in
theorem bin_29 (w : World) (f a b : Int) (ha : -2147483648 ≤ a ∧ a ≤ 2147483647) (hb : -2147483648 ≤ b ∧ b ≤ 2147483647) : Calls Try.prog 52 #[.int .i64 29, .int .i64 f, .int .i32 a, .int .i32 b] w fun en w' => en = .returned (.tuple #[.int .i32 (biI 29 f a b), .bool (biB 29 f b)]) ∧ w = w' := by
  obtain ⟨V, hV⟩ : ∃ V, V = biI 29 f a b := ⟨_, rfl⟩
  obtain ⟨T, hT⟩ : ∃ T, T = biB 29 f b := ⟨_, rfl⟩
  rw [← hV, ← hT]
  all_goals
    simp [biI] at hV
    simp [biB] at hT
    have HV := Lib.hid hV
    have HT := Lib.hid hT
    clear hV hT
    go_enter Try.func52, Try.ntmps52
    go_wp2_with (first | (go_at_call 63; refine (flag_any _ _).mono ?_; rintro en w2 ⟨rfl, rfl⟩) | (go_at_call 61; refine (rdiv_yes _ _ _ (by omega) (by omega) (by omega) (by omega)).mono ?_; rintro en w2 ⟨rfl, rfl⟩) | (go_at_call 61; refine (rdiv_no _ _ _ (by omega)).mono ?_; rintro en w2 ⟨rfl, rfl⟩) | (go_at_call 62; refine (rmod_yes _ _ _ (by omega) (by omega) (by omega) (by omega)).mono ?_; rintro en w2 ⟨rfl, rfl⟩) | (go_at_call 62; refine (rmod_no _ _ _ (by omega)).mono ?_; rintro en w2 ⟨rfl, rfl⟩) | (go_at_call 64; refine (rhas_any _ _ _ (by omega) (by omega)).mono ?_; rintro en w2 ⟨rfl, rfl⟩) | (go_at_call 65; refine (rlsl_any _ _ _).mono ?_; rintro en w2 ⟨rfl, rfl⟩) | (go_at_call 66; refine (rasr_any _ _ _).mono ?_; rintro en w2 ⟨rfl, rfl⟩) | (go_at_call 67; refine (rror_any _ _ _).mono ?_; rintro en w2 ⟨rfl, rfl⟩))
    all_goals (try go_ret2)
    all_goals exact ⟨by rw [HV.out, HT.out]; first | rfl | (rw [show (b != 0) = true from by simp [hb0]]; rfl) | (rw [show (b != 0) = true from by simp [hb0], show (a != 0) = true from by simp [ha0]]; rfl), rfl⟩
set_option maxHeartbeats 6400000 in
theorem bin_30 (w : World) (f a b : Int) (ha : -2147483648 ≤ a ∧ a ≤ 2147483647) (hb : -2147483648 ≤ b ∧ b ≤ 2147483647) : Calls Try.prog 52 #[.int .i64 30, .int .i64 f, .int .i32 a, .int .i32 b] w fun en w' => en = .returned (.tuple #[.int .i32 (biI 30 f a b), .bool (biB 30 f b)]) ∧ w = w' := by
  obtain ⟨V, hV⟩ : ∃ V, V = biI 30 f a b := ⟨_, rfl⟩
  obtain ⟨T, hT⟩ : ∃ T, T = biB 30 f b := ⟨_, rfl⟩
  rw [← hV, ← hT]
  all_goals
    simp [biI] at hV
    simp [biB] at hT
    have HV := Lib.hid hV
    have HT := Lib.hid hT
    clear hV hT
    go_enter Try.func52, Try.ntmps52
    go_wp2_with (first | (go_at_call 63; refine (flag_any _ _).mono ?_; rintro en w2 ⟨rfl, rfl⟩) | (go_at_call 61; refine (rdiv_yes _ _ _ (by omega) (by omega) (by omega) (by omega)).mono ?_; rintro en w2 ⟨rfl, rfl⟩) | (go_at_call 61; refine (rdiv_no _ _ _ (by omega)).mono ?_; rintro en w2 ⟨rfl, rfl⟩) | (go_at_call 62; refine (rmod_yes _ _ _ (by omega) (by omega) (by omega) (by omega)).mono ?_; rintro en w2 ⟨rfl, rfl⟩) | (go_at_call 62; refine (rmod_no _ _ _ (by omega)).mono ?_; rintro en w2 ⟨rfl, rfl⟩) | (go_at_call 64; refine (rhas_any _ _ _ (by omega) (by omega)).mono ?_; rintro en w2 ⟨rfl, rfl⟩) | (go_at_call 65; refine (rlsl_any _ _ _).mono ?_; rintro en w2 ⟨rfl, rfl⟩) | (go_at_call 66; refine (rasr_any _ _ _).mono ?_; rintro en w2 ⟨rfl, rfl⟩) | (go_at_call 67; refine (rror_any _ _ _).mono ?_; rintro en w2 ⟨rfl, rfl⟩))
    all_goals (try go_ret2)
    all_goals exact ⟨by rw [HV.out, HT.out]; first | rfl | (rw [show (b != 0) = true from by simp [hb0]]; rfl) | (rw [show (b != 0) = true from by simp [hb0], show (a != 0) = true from by simp [ha0]]; rfl), rfl⟩
set_option maxHeartbeats 6400000 in
theorem bin_31 (w : World) (f a b : Int) (ha : -2147483648 ≤ a ∧ a ≤ 2147483647) (hb : -2147483648 ≤ b ∧ b ≤ 2147483647) : Calls Try.prog 52 #[.int .i64 31, .int .i64 f, .int .i32 a, .int .i32 b] w fun en w' => en = .returned (.tuple #[.int .i32 (biI 31 f a b), .bool (biB 31 f b)]) ∧ w = w' := by
  obtain ⟨V, hV⟩ : ∃ V, V = biI 31 f a b := ⟨_, rfl⟩
  obtain ⟨T, hT⟩ : ∃ T, T = biB 31 f b := ⟨_, rfl⟩
  rw [← hV, ← hT]
  all_goals
    simp [biI] at hV
    simp [biB] at hT
    have HV := Lib.hid hV
    have HT := Lib.hid hT
    clear hV hT
    go_enter Try.func52, Try.ntmps52
    go_wp2_with (first | (go_at_call 63; refine (flag_any _ _).mono ?_; rintro en w2 ⟨rfl, rfl⟩) | (go_at_call 61; refine (rdiv_yes _ _ _ (by omega) (by omega) (by omega) (by omega)).mono ?_; rintro en w2 ⟨rfl, rfl⟩) | (go_at_call 61; refine (rdiv_no _ _ _ (by omega)).mono ?_; rintro en w2 ⟨rfl, rfl⟩) | (go_at_call 62; refine (rmod_yes _ _ _ (by omega) (by omega) (by omega) (by omega)).mono ?_; rintro en w2 ⟨rfl, rfl⟩) | (go_at_call 62; refine (rmod_no _ _ _ (by omega)).mono ?_; rintro en w2 ⟨rfl, rfl⟩) | (go_at_call 64; refine (rhas_any _ _ _ (by omega) (by omega)).mono ?_; rintro en w2 ⟨rfl, rfl⟩) | (go_at_call 65; refine (rlsl_any _ _ _).mono ?_; rintro en w2 ⟨rfl, rfl⟩) | (go_at_call 66; refine (rasr_any _ _ _).mono ?_; rintro en w2 ⟨rfl, rfl⟩) | (go_at_call 67; refine (rror_any _ _ _).mono ?_; rintro en w2 ⟨rfl, rfl⟩))
    all_goals (try go_ret2)
    all_goals exact ⟨by rw [HV.out, HT.out]; first | rfl | (rw [show (b != 0) = true from by simp [hb0]]; rfl) | (rw [show (b != 0) = true from by simp [hb0], show (a != 0) = true from by simp [ha0]]; rfl), rfl⟩
theorem binary_ref (w : World) (op f a b : Int) (ha : -2147483648 ≤ a ∧ a ≤ 2147483647) (hb : -2147483648 ≤ b ∧ b ≤ 2147483647) (ho : isBi op) : Calls Try.prog 52 #[.int .i64 op, .int .i64 f, .int .i32 a, .int .i32 b] w fun en w' => en = .returned (.tuple #[.int .i32 (biI op f a b), .bool (biB op f b)]) ∧ w = w' := by
  unfold isBi at ho
  rcases (by omega : op = 9 ∨ op = 10 ∨ op = 11 ∨ op = 12 ∨ op = 13 ∨ op = 14 ∨ op = 15 ∨ op = 16 ∨ op = 17 ∨ op = 18 ∨ op = 19 ∨ op = 20 ∨ op = 21 ∨ op = 22 ∨ op = 29 ∨ op = 30 ∨ op = 31) with rfl | rfl | rfl | rfl | rfl | rfl | rfl | rfl | rfl | rfl | rfl | rfl | rfl | rfl | rfl | rfl | rfl
  · exact bin_9 w f a b ha hb
  · exact bin_10 w f a b ha hb
  · exact bin_11 w f a b ha hb
  · exact bin_12 w f a b ha hb
  · exact bin_13 w f a b ha hb
  · exact bin_14 w f a b ha hb
  · exact bin_15 w f a b ha hb
  · exact bin_16 w f a b ha hb
  · exact bin_17 w f a b ha hb
  · exact bin_18 w f a b ha hb
  · exact bin_19 w f a b ha hb
  · exact bin_20 w f a b ha hb
  · exact bin_21 w f a b ha hb
  · exact bin_22 w f a b ha hb
  · exact bin_29 w f a b ha hb
  · exact bin_30 w f a b ha hb
  · exact bin_31 w f a b ha hb
end Go.Proofs.Ytiikeilpgajmfaa
