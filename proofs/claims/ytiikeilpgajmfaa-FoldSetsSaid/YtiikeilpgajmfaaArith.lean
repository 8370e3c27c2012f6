/- Contracts of package arith and of its references: what each call returns; the world stays as it is. -/
import Derived.Test.YtiikeilpgajmfaaChecked
import Derived.Test.YtiikeilpgajmfaaLib
import Derived.WalkLawsBesides
import Derived.WalkSpells
namespace Go.Proofs.Ytiikeilpgajmfaa
open Go.RowKit Go.Waf
attribute [local go_sem] mask31_u64 mask31_u32 mask31_i32 mask1_i32 wrap_u64_mod wrap_u64_mod32 wrap32_wrap64 wrap32_u32 wrap_u32_mod

theorem add_any (a b : Int) (w : World) : Calls Try.prog 39 #[.int .i32 a, .int .i32 b] w fun e w' => e = .returned (.int .i32 (wrap32 (a + b))) ∧ w = w' := by
  go_enter Try.func39, Try.ntmps39
  go_wp2
  go_ret
  exact ⟨rfl, rfl⟩
theorem sub_any (a b : Int) (w : World) : Calls Try.prog 36 #[.int .i32 a, .int .i32 b] w fun e w' => e = .returned (.int .i32 (wrap32 (a - b))) ∧ w = w' := by
  go_enter Try.func36, Try.ntmps36
  go_wp2
  go_ret
  exact ⟨rfl, rfl⟩
theorem mul_any (a b : Int) (w : World) : Calls Try.prog 40 #[.int .i32 a, .int .i32 b] w fun e w' => e = .returned (.int .i32 (wrap32 (a * b))) ∧ w = w' := by
  go_enter Try.func40, Try.ntmps40
  go_wp2
  go_ret
  exact ⟨rfl, rfl⟩

theorem ret_int {k : IntKind} {a b : Int} (h : a = b) : Ending.returned (.int k a) = .returned (.int k b) := by rw [h]
theorem ret_bool {a b : Bool} (h : a = b) : Ending.returned (.bool a) = .returned (.bool b) := by rw [h]
theorem ret2_int {k : IntKind} {a b : Int} {t : Bool} (h : a = b) : Ending.returned (.tuple #[.int k a, .bool t]) = .returned (.tuple #[.int k b, .bool t]) := by rw [h]
theorem div_no (a b : Int) (w : World) (hb : b < 1) : Calls Try.prog 41 #[.int .i32 a, .int .i32 b] w fun e w' => e = .returned (.tuple #[.int .i32 0, .bool false]) ∧ w = w' := by
  go_enter Try.func41, Try.ntmps41
  go_wp2
  go_ret2
  exact ⟨rfl, rfl⟩
theorem div_yes (a b : Int) (w : World) (hb : 1 ≤ b) (h0 : -2147483648 ≤ a) (h1 : a ≤ 2147483647) : Calls Try.prog 41 #[.int .i32 a, .int .i32 b] w fun e w' => e = .returned (.tuple #[.int .i32 (a / b), .bool true]) ∧ w = w' := by
  have hq := tdiv_floor a b hb h0 h1
  go_enter Try.func41, Try.ntmps41
  go_wp2
  all_goals go_ret2
  · exact ⟨ret2_int (hq.1 (by assumption)), rfl⟩
  · exact ⟨ret2_int (hq.2 (by assumption)), rfl⟩
theorem mod_no (a b : Int) (w : World) (hb : b < 1) : Calls Try.prog 42 #[.int .i32 a, .int .i32 b] w fun e w' => e = .returned (.tuple #[.int .i32 0, .bool false]) ∧ w = w' := by
  go_enter Try.func42, Try.ntmps42
  go_wp2
  go_ret2
  exact ⟨rfl, rfl⟩
theorem mod_yes (a b : Int) (w : World) (hb : 1 ≤ b) (h1 : b ≤ 2147483647) : Calls Try.prog 42 #[.int .i32 a, .int .i32 b] w fun e w' => e = .returned (.tuple #[.int .i32 (a % b), .bool true]) ∧ w = w' := by
  have hq := tmod_floor a b hb h1
  go_enter Try.func42, Try.ntmps42
  go_wp2
  all_goals go_ret2
  · exact ⟨ret2_int (hq.1 (by assumption)), rfl⟩
  · exact ⟨ret2_int (hq.2 (by assumption)), rfl⟩
theorem rdiv_no (a b : Int) (w : World) (hb : b < 1) : Calls Try.prog 61 #[.int .i32 a, .int .i32 b] w fun e w' => e = .returned (.tuple #[.int .i32 0, .bool false]) ∧ w = w' := by
  go_enter Try.func61, Try.ntmps61
  go_wp2
  go_ret2
  exact ⟨rfl, rfl⟩
theorem rdiv_yes (a b : Int) (w : World) (hb : 1 ≤ b) (h0 : -2147483648 ≤ a) (h1 : a ≤ 2147483647) (h2 : b ≤ 2147483647) : Calls Try.prog 61 #[.int .i32 a, .int .i32 b] w fun e w' => e = .returned (.tuple #[.int .i32 (a / b), .bool true]) ∧ w = w' := by
  have hq := tdiv_floor a b hb h0 h1
  go_enter Try.func61, Try.ntmps61
  go_wp2
  all_goals go_ret2
  · exact ⟨ret2_int (by rw [wrap32_wrap64, ← wrap32_sub]; exact hq.1 (by assumption)), rfl⟩
  · exact ⟨ret2_int (hq.2 (by assumption)), rfl⟩
theorem rmod_no (a b : Int) (w : World) (hb : b < 1) : Calls Try.prog 62 #[.int .i32 a, .int .i32 b] w fun e w' => e = .returned (.tuple #[.int .i32 0, .bool false]) ∧ w = w' := by
  go_enter Try.func62, Try.ntmps62
  go_wp2
  go_ret2
  exact ⟨rfl, rfl⟩
theorem rmod_yes (a b : Int) (w : World) (hb : 1 ≤ b) (h1 : b ≤ 2147483647) (h2 : -2147483648 ≤ a) (h3 : a ≤ 2147483647) : Calls Try.prog 62 #[.int .i32 a, .int .i32 b] w fun e w' => e = .returned (.tuple #[.int .i32 (a % b), .bool true]) ∧ w = w' := by
  have hq := tmod_floor a b hb h1
  go_enter Try.func62, Try.ntmps62
  go_wp2
  all_goals go_ret2
  · exact ⟨ret2_int (by rw [wrap32_wrap64]; exact hq.1 (by assumption)), rfl⟩
  · exact ⟨ret2_int (by rw [← hq.2 (by assumption)]; exact IntWalk.wrap32_in _ (by have := Int.tmod_lt_of_pos a (show 0 < b by omega); omega)), rfl⟩

theorem by_any (n : Int) (w : World) : Calls Try.prog 58 #[.int .i32 n] w fun e w' => e = .returned (.int .u64 (n % 32)) ∧ w = w' := by
  go_enter Try.func58, Try.ntmps58
  go_wp2
  go_ret
  exact ⟨rfl, rfl⟩
theorem lsl_any (a n : Int) (w : World) : Calls Try.prog 44 #[.int .i32 a, .int .i32 n] w fun e w' => e = .returned (.int .i32 (wrap32 (a * 2 ^ (n % 32).toNat))) ∧ w = w' := by
  go_enter Try.func44, Try.ntmps44
  go_wp2_with (go_at_call 58; refine (by_any _ _).mono ?_; rintro e w' ⟨rfl, rfl⟩)
  go_ret
  exact ⟨rfl, rfl⟩
theorem asr_any (a n : Int) (w : World) : Calls Try.prog 45 #[.int .i32 a, .int .i32 n] w fun e w' => e = .returned (.int .i32 (a / 2 ^ (n % 32).toNat)) ∧ w = w' := by
  go_enter Try.func45, Try.ntmps45
  go_wp2_with (go_at_call 58; refine (by_any _ _).mono ?_; rintro e w' ⟨rfl, rfl⟩)
  go_ret
  exact ⟨rfl, rfl⟩
theorem rlsl_any (a n : Int) (w : World) : Calls Try.prog 65 #[.int .i32 a, .int .i32 n] w fun e w' => e = .returned (.int .i32 (wrap32 (a * 2 ^ (n % 32).toNat))) ∧ w = w' := by
  go_enter Try.func65, Try.ntmps65
  go_wp2
  go_ret
  exact ⟨by rw [← rlsl_eq]; rfl, rfl⟩
theorem rasr_any (a n : Int) (w : World) : Calls Try.prog 66 #[.int .i32 a, .int .i32 n] w fun e w' => e = .returned (.int .i32 (a / 2 ^ (n % 32).toNat)) ∧ w = w' := by
  go_enter Try.func66, Try.ntmps66
  go_wp2
  go_ret
  exact ⟨rfl, rfl⟩

theorem rol_any (a k : Int) (w : World) : Calls Try.prog 59 #[.int .u32 a, .int .i64 k] w fun e w' => e = .returned (.int .u32 (bits .or .u32 (a * 2 ^ (k % 32).toNat % 4294967296) (a / 2 ^ (32 - k % 32).toNat))) ∧ w = w' := by
  go_enter Try.func59, Try.ntmps59
  go_wp2
  go_ret
  exact ⟨rfl, rfl⟩
theorem ror_any (a n : Int) (w : World) : Calls Try.prog 46 #[.int .i32 a, .int .i32 n] w fun e w' => e = .returned (.int .i32 (ror a n)) ∧ w = w' := by
  have hr := ror_left a n
  go_enter Try.func46, Try.ntmps46
  go_wp2_with (first | (go_at_call 58; refine (by_any _ _).mono ?_; rintro e w' ⟨rfl, rfl⟩) | (go_at_call 59; refine (rol_any _ _ _).mono ?_; rintro e w' ⟨rfl, rfl⟩))
  go_ret
  exact ⟨ret_int hr, rfl⟩
theorem rror_any (a n : Int) (w : World) : Calls Try.prog 67 #[.int .i32 a, .int .i32 n] w fun e w' => e = .returned (.int .i32 (ror a n)) ∧ w = w' := by
  have hr := ror_right a n
  go_enter Try.func67, Try.ntmps67
  go_wp2
  go_ret
  exact ⟨ret_int hr, rfl⟩
theorem element_any (n : Int) (w : World) : Calls Try.prog 57 #[.int .i32 n] w fun e w' => e = .returned (.bool (decide (0 ≤ n) && decide (n < 32))) ∧ w = w' := by
  go_enter Try.func57, Try.ntmps57
  go_wp2
  all_goals go_ret
  all_goals exact ⟨ret_bool (by simp; try omega), rfl⟩

theorem bit_yes (n : Int) (w : World) (h0 : 0 ≤ n) (h1 : n < 32) : Calls Try.prog 55 #[.int .i32 n] w fun e w' => e = .returned (.tuple #[.int .i32 (wrap32 (2 ^ n.toNat)), .bool true]) ∧ w = w' := by
  go_enter Try.func55, Try.ntmps55
  go_wp2
  go_ret2
  exact ⟨rfl, rfl⟩
theorem bit_no (n : Int) (w : World) (h0 : ¬ (0 ≤ n ∧ n < 32)) : Calls Try.prog 55 #[.int .i32 n] w fun e w' => e = .returned (.tuple #[.int .i32 0, .bool false]) ∧ w = w' := by
  have he : (decide (0 ≤ n) && decide (n < 32)) = false := by simp; omega
  go_enter Try.func55, Try.ntmps55
  go_wp2_with (go_at_call 57; refine (element_any _ _).mono ?_; rw [he]; rintro e w' ⟨rfl, rfl⟩)
  go_ret2
  exact ⟨rfl, rfl⟩
theorem rbit_yes (n : Int) (w : World) (h0 : 0 ≤ n) (h1 : n < 32) : Calls Try.prog 60 #[.int .i32 n] w fun e w' => e = .returned (.tuple #[.int .i32 (wrap32 (2 ^ n.toNat)), .bool true]) ∧ w = w' := by
  go_enter Try.func60, Try.ntmps60
  go_wp2
  go_ret2
  exact ⟨by rw [← wrap32_u32 (2 ^ n.toNat)]; rfl, rfl⟩
theorem rbit_no (n : Int) (w : World) (h0 : ¬ (0 ≤ n ∧ n < 32)) : Calls Try.prog 60 #[.int .i32 n] w fun e w' => e = .returned (.tuple #[.int .i32 0, .bool false]) ∧ w = w' := by
  by_cases h1 : n < 0
  all_goals
    go_enter Try.func60, Try.ntmps60
    go_wp2
    go_ret2
    exact ⟨rfl, rfl⟩
theorem has_any (n s : Int) (w : World) : Calls Try.prog 43 #[.int .i32 n, .int .i32 s] w fun e w' => e = .returned (.bool (hasBit n s)) ∧ w = w' := by
  by_cases h0 : 0 ≤ n ∧ n < 32
  · obtain ⟨h1, h2⟩ := h0
    have hb := hasBit_in n s h1 h2
    have HB := Lib.hid hb
    clear hb
    go_enter Try.func43, Try.ntmps43
    go_wp2
    go_ret
    exact ⟨ret_bool HB.out.symm, rfl⟩
  · have hb := hasBit_out n s h0
    have HB := Lib.hid hb
    clear hb
    have he : (decide (0 ≤ n) && decide (n < 32)) = false := by simp; omega
    go_enter Try.func43, Try.ntmps43
    go_wp2_with (go_at_call 57; refine (element_any _ _).mono ?_; rw [he]; rintro e w' ⟨rfl, rfl⟩)
    go_ret
    exact ⟨ret_bool HB.out.symm, rfl⟩
theorem rhas_any (n s : Int) (w : World) (hs0 : -2147483648 ≤ s) (hs1 : s ≤ 2147483647) : Calls Try.prog 64 #[.int .i32 n, .int .i32 s] w fun e w' => e = .returned (.bool (hasBit n s)) ∧ w = w' := by
  by_cases h0 : 0 ≤ n ∧ n < 32
  · obtain ⟨h1, h2⟩ := h0
    have hb := (andBit s n.toNat (by omega) hs0 hs1).trans (hasBit_in n s h1 h2).symm
    have HB := Lib.hid hb
    clear hb
    go_enter Try.func64, Try.ntmps64
    go_wp2_with (go_at_call 60; refine (rbit_yes _ _ h1 h2).mono ?_; rintro e w' ⟨rfl, rfl⟩)
    go_ret
    exact ⟨ret_bool HB.out, rfl⟩
  · have hb := hasBit_out n s h0
    have HB := Lib.hid hb
    clear hb
    go_enter Try.func64, Try.ntmps64
    go_wp2_with (go_at_call 60; refine (rbit_no _ _ h0).mono ?_; rintro e w' ⟨rfl, rfl⟩)
    go_ret
    exact ⟨ret_bool HB.out.symm, rfl⟩
theorem element_yes (n : Int) (w : World) (h0 : 0 ≤ n) (h1 : n < 32) : Calls Try.prog 57 #[.int .i32 n] w fun e w' => e = .returned (.bool true) ∧ w = w' :=
  (element_any n w).mono fun _ _ ⟨h, hw⟩ => ⟨by rw [h]; exact ret_bool (by simp; omega), hw⟩
theorem element_no (n : Int) (w : World) (h0 : ¬ (0 ≤ n ∧ n < 32)) : Calls Try.prog 57 #[.int .i32 n] w fun e w' => e = .returned (.bool false) ∧ w = w' :=
  (element_any n w).mono fun _ _ ⟨h, hw⟩ => ⟨by rw [h]; exact ret_bool (by simp; omega), hw⟩
theorem span_no (a b : Int) (w : World) (h0 : ¬ (0 ≤ a ∧ a < 32 ∧ 0 ≤ b ∧ b < 32)) : Calls Try.prog 56 #[.int .i32 a, .int .i32 b] w fun e w' => e = .returned (.tuple #[.int .i32 0, .bool false]) ∧ w = w' := by
  by_cases ha : 0 ≤ a ∧ a < 32
  all_goals
    go_enter Try.func56, Try.ntmps56
    go_wp2_with (first | (go_at_call 57; refine (element_yes _ _ (by omega) (by omega)).mono ?_; rintro e w' ⟨rfl, rfl⟩) | (go_at_call 57; refine (element_no _ _ (by omega)).mono ?_; rintro e w' ⟨rfl, rfl⟩))
    go_ret2
    exact ⟨rfl, rfl⟩
theorem ret2_i32 {a b : Int} {t : Bool} (h : a = b) : Ending.returned (.tuple #[.int .i32 a, .bool t]) = .returned (.tuple #[.int .i32 b, .bool t]) := by rw [h]
theorem i32_eq {a b : Int} (h : a = b) : Value.int .i32 a = .int .i32 b := by rw [h]
theorem span_yes (a b : Int) (w : World) (h0 : 0 ≤ a) (h1 : a < 32) (h2 : 0 ≤ b) (h3 : b < 32) : Calls Try.prog 56 #[.int .i32 a, .int .i32 b] w fun e w' => e = .returned (.tuple #[.int .i32 (span a.toNat (b + 1 - a).toNat).toInt, .bool true]) ∧ w = w' := by
  have st := fun k => span_step a.toNat k
  have ST := Lib.hid st
  clear st
  go_enter Try.func56, Try.ntmps56
  go_wp2_with (go_at_call 57; refine (element_yes _ _ (by omega) (by omega)).mono ?_; rintro e w' ⟨rfl, rfl⟩)
  go_loop [6, 7] (fun s n => ∃ k : Nat, k ≤ (b + 1 - a).toNat ∧ n = .int .i32 (a + k) ∧ s = .int .i32 (span a.toNat k).toInt) (fun _ n => (b + 1 - intOf n).toNat)
  case atStart => exact ⟨0, Nat.zero_le _, by simp, rfl⟩
  case round =>
    obtain ⟨k, hk, rfl, rfl⟩ := hrel
    by_cases hlt : a + k ≤ b
    · go_wp2
      go_round
      case rel => exact ⟨k + 1, by omega, i32_eq (by omega), i32_eq (by rw [← ST.out k, show (a + (k : Int)).toNat = a.toNat + k from by omega])⟩
      case measure => simp [intOf]; omega
    · obtain rfl : k = (b + 1 - a).toNat := by omega
      go_wp2
      go_ret2
      exact ⟨rfl, rfl⟩
theorem rspan_no (a b : Int) (w : World) (h0 : ¬ (0 ≤ a ∧ a < 32 ∧ 0 ≤ b ∧ b < 32)) : Calls Try.prog 51 #[.int .i32 a, .int .i32 b] w fun e w' => e = .returned (.tuple #[.int .i32 0, .bool false]) ∧ w = w' := by
  by_cases ha : a < 0
  · go_enter Try.func51, Try.ntmps51
    go_wp2
    go_ret2
    exact ⟨rfl, rfl⟩
  by_cases ha2 : 31 < a
  · go_enter Try.func51, Try.ntmps51
    go_wp2
    go_ret2
    exact ⟨rfl, rfl⟩
  by_cases hb : b < 0
  all_goals
    go_enter Try.func51, Try.ntmps51
    go_wp2
    go_ret2
    exact ⟨rfl, rfl⟩
theorem rspan_yes (a b : Int) (w : World) (h0 : 0 ≤ a) (h1 : a < 32) (h2 : 0 ≤ b) (h3 : b < 32) : Calls Try.prog 51 #[.int .i32 a, .int .i32 b] w fun e w' => e = .returned (.tuple #[.int .i32 (span a.toNat (b + 1 - a).toNat).toInt, .bool true]) ∧ w = w' := by
  have st := fun k => span_step a.toNat k
  have ST := Lib.hid st
  clear st
  go_enter Try.func51, Try.ntmps51
  go_wp2_with fail
  go_loop [6, 7] (fun s n => ∃ k : Nat, k ≤ (b + 1 - a).toNat ∧ n = .int .i32 (a + k) ∧ s = .int .i32 (span a.toNat k).toInt) (fun _ n => (b + 1 - intOf n).toNat)
  case atStart => exact ⟨0, Nat.zero_le _, by simp, rfl⟩
  case round =>
    obtain ⟨k, hk, rfl, rfl⟩ := hrel
    by_cases hlt : a + k ≤ b
    · go_wp2_with (go_at_call 60; refine (rbit_yes _ _ (by omega) (by omega)).mono ?_; rintro e w' ⟨rfl, rfl⟩)
      go_round
      case rel => exact ⟨k + 1, by omega, i32_eq (by omega), i32_eq (by rw [← ST.out k, show (a + (k : Int)).toNat = a.toNat + k from by omega])⟩
      case measure => simp [intOf]; omega
    · obtain rfl : k = (b + 1 - a).toNat := by omega
      go_wp2
      go_ret2
      exact ⟨rfl, rfl⟩

/-- What Span answers, whatever the numbers. -/
def spanOf (a b : Int) : Value := if 0 ≤ a ∧ a < 32 ∧ 0 ≤ b ∧ b < 32 then .tuple #[.int .i32 (span a.toNat (b + 1 - a).toNat).toInt, .bool true] else .tuple #[.int .i32 0, .bool false]
theorem span_any (a b : Int) (w : World) : Calls Try.prog 56 #[.int .i32 a, .int .i32 b] w fun e w' => e = .returned (spanOf a b) ∧ w = w' := by
  unfold spanOf
  split
  · rename_i h; exact span_yes a b w h.1 h.2.1 h.2.2.1 h.2.2.2
  · rename_i h; exact span_no a b w h
end Go.Proofs.Ytiikeilpgajmfaa
