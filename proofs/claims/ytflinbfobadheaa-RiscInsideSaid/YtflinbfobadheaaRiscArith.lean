/- Contracts of package arith and of its references (the ones that the machine reaches): what each call returns; the world stays as it is. -/
import Derived.Test.YtflinbfobadheaaChecked
import Derived.Test.YtflinbfobadheaaLib
import Derived.WalkLawsBesides
import Derived.WalkSpells
namespace Go.Proofs.Ytflinbfobadheaa
open Go.RowKit Go.Waf
attribute [local go_sem] mask31_u64 mask31_u32 mask31_i32 mask1_i32 wrap_u64_mod wrap_u64_mod32 wrap32_wrap64 wrap32_u32 wrap_u32_mod

theorem ret_int {k : IntKind} {a b : Int} (h : a = b) : Ending.returned (.int k a) = .returned (.int k b) := by rw [h]
theorem ret_bool {a b : Bool} (h : a = b) : Ending.returned (.bool a) = .returned (.bool b) := by rw [h]
theorem ret2_int {k : IntKind} {a b : Int} {t : Bool} (h : a = b) : Ending.returned (.tuple #[.int k a, .bool t]) = .returned (.tuple #[.int k b, .bool t]) := by rw [h]
theorem div_no (a b : Int) (w : World) (hb : b < 1) : Calls Try.prog 53 #[.int .i32 a, .int .i32 b] w fun e w' => e = .returned (.tuple #[.int .i32 0, .bool false]) ∧ w = w' := by
  go_enter Try.func53, Try.ntmps53
  go_wp2
  go_ret2
  exact ⟨rfl, rfl⟩
theorem div_yes (a b : Int) (w : World) (hb : 1 ≤ b) (h0 : -2147483648 ≤ a) (h1 : a ≤ 2147483647) : Calls Try.prog 53 #[.int .i32 a, .int .i32 b] w fun e w' => e = .returned (.tuple #[.int .i32 (a / b), .bool true]) ∧ w = w' := by
  have hq := tdiv_floor a b hb h0 h1
  go_enter Try.func53, Try.ntmps53
  go_wp2
  all_goals go_ret2
  · exact ⟨ret2_int (hq.1 (by assumption)), rfl⟩
  · exact ⟨ret2_int (hq.2 (by assumption)), rfl⟩
theorem mod_no (a b : Int) (w : World) (hb : b < 1) : Calls Try.prog 54 #[.int .i32 a, .int .i32 b] w fun e w' => e = .returned (.tuple #[.int .i32 0, .bool false]) ∧ w = w' := by
  go_enter Try.func54, Try.ntmps54
  go_wp2
  go_ret2
  exact ⟨rfl, rfl⟩
theorem mod_yes (a b : Int) (w : World) (hb : 1 ≤ b) (h1 : b ≤ 2147483647) : Calls Try.prog 54 #[.int .i32 a, .int .i32 b] w fun e w' => e = .returned (.tuple #[.int .i32 (a % b), .bool true]) ∧ w = w' := by
  have hq := tmod_floor a b hb h1
  go_enter Try.func54, Try.ntmps54
  go_wp2
  all_goals go_ret2
  · exact ⟨ret2_int (hq.1 (by assumption)), rfl⟩
  · exact ⟨ret2_int (hq.2 (by assumption)), rfl⟩
theorem rdiv_no (a b : Int) (w : World) (hb : b < 1) : Calls Try.prog 61 #[.int .i32 a, .int .i32 b] w fun e w' => e = .returned (.tuple #[.int .i32 0, .bool false]) ∧ w = w' := by
  go_enter Try.func61, Try.ntmps61
  go_wp2
  go_ret2
  exact ⟨rfl, rfl⟩
theorem rdiv_yes (a b : Int) (w : World) (hb : 1 ≤ b) (h0 : -2147483648 ≤ a) (h1 : a ≤ 2147483647) (h2 : b ≤ 2147483647) : Calls Try.prog 61 #[.int .i32 a, .int .i32 b] w fun e w' => e = .returned (.tuple #[.int .i32 (a / b), .bool true]) ∧ w = w' := by
  have hq := tdiv_floor a b hb h0 h1
  go_enter Try.func61, Try.ntmps61
  go_wp2
  all_goals go_ret2
  · exact ⟨ret2_int (by rw [wrap32_wrap64, ← wrap32_sub]; exact hq.1 (by assumption)), rfl⟩
  · exact ⟨ret2_int (hq.2 (by assumption)), rfl⟩
theorem rmod_no (a b : Int) (w : World) (hb : b < 1) : Calls Try.prog 62 #[.int .i32 a, .int .i32 b] w fun e w' => e = .returned (.tuple #[.int .i32 0, .bool false]) ∧ w = w' := by
  go_enter Try.func62, Try.ntmps62
  go_wp2
  go_ret2
  exact ⟨rfl, rfl⟩
theorem rmod_yes (a b : Int) (w : World) (hb : 1 ≤ b) (h1 : b ≤ 2147483647) (h2 : -2147483648 ≤ a) (h3 : a ≤ 2147483647) : Calls Try.prog 62 #[.int .i32 a, .int .i32 b] w fun e w' => e = .returned (.tuple #[.int .i32 (a % b), .bool true]) ∧ w = w' := by
  have hq := tmod_floor a b hb h1
  go_enter Try.func62, Try.ntmps62
  go_wp2
  all_goals go_ret2
  · exact ⟨ret2_int (by rw [wrap32_wrap64]; exact hq.1 (by assumption)), rfl⟩
  · exact ⟨ret2_int (by rw [← hq.2 (by assumption)]; exact IntWalk.wrap32_in _ (by have := Int.tmod_lt_of_pos a (show 0 < b by omega); omega)), rfl⟩

theorem by_any (n : Int) (w : World) : Calls Try.prog 67 #[.int .i32 n] w fun e w' => e = .returned (.int .u64 (n % 32)) ∧ w = w' := by
  go_enter Try.func67, Try.ntmps67
  go_wp2
  go_ret
  exact ⟨rfl, rfl⟩
theorem lsl_any (a n : Int) (w : World) : Calls Try.prog 48 #[.int .i32 a, .int .i32 n] w fun e w' => e = .returned (.int .i32 (wrap32 (a * 2 ^ (n % 32).toNat))) ∧ w = w' := by
  go_enter Try.func48, Try.ntmps48
  go_wp2_with (go_at_call 67; refine (by_any _ _).mono ?_; rintro e w' ⟨rfl, rfl⟩)
  go_ret
  exact ⟨rfl, rfl⟩
theorem asr_any (a n : Int) (w : World) : Calls Try.prog 49 #[.int .i32 a, .int .i32 n] w fun e w' => e = .returned (.int .i32 (a / 2 ^ (n % 32).toNat)) ∧ w = w' := by
  go_enter Try.func49, Try.ntmps49
  go_wp2_with (go_at_call 67; refine (by_any _ _).mono ?_; rintro e w' ⟨rfl, rfl⟩)
  go_ret
  exact ⟨rfl, rfl⟩
theorem rlsl_any (a n : Int) (w : World) : Calls Try.prog 58 #[.int .i32 a, .int .i32 n] w fun e w' => e = .returned (.int .i32 (wrap32 (a * 2 ^ (n % 32).toNat))) ∧ w = w' := by
  go_enter Try.func58, Try.ntmps58
  go_wp2
  go_ret
  exact ⟨by rw [← rlsl_eq]; rfl, rfl⟩
theorem rasr_any (a n : Int) (w : World) : Calls Try.prog 59 #[.int .i32 a, .int .i32 n] w fun e w' => e = .returned (.int .i32 (a / 2 ^ (n % 32).toNat)) ∧ w = w' := by
  go_enter Try.func59, Try.ntmps59
  go_wp2
  go_ret
  exact ⟨rfl, rfl⟩

theorem rol_any (a k : Int) (w : World) : Calls Try.prog 68 #[.int .u32 a, .int .i64 k] w fun e w' => e = .returned (.int .u32 (bits .or .u32 (a * 2 ^ (k % 32).toNat % 4294967296) (a / 2 ^ (32 - k % 32).toNat))) ∧ w = w' := by
  go_enter Try.func68, Try.ntmps68
  go_wp2
  go_ret
  exact ⟨rfl, rfl⟩
theorem ror_any (a n : Int) (w : World) : Calls Try.prog 50 #[.int .i32 a, .int .i32 n] w fun e w' => e = .returned (.int .i32 (ror a n)) ∧ w = w' := by
  have hr := ror_left a n
  go_enter Try.func50, Try.ntmps50
  go_wp2_with (first | (go_at_call 67; refine (by_any _ _).mono ?_; rintro e w' ⟨rfl, rfl⟩) | (go_at_call 68; refine (rol_any _ _ _).mono ?_; rintro e w' ⟨rfl, rfl⟩))
  go_ret
  exact ⟨ret_int hr, rfl⟩
theorem rror_any (a n : Int) (w : World) : Calls Try.prog 60 #[.int .i32 a, .int .i32 n] w fun e w' => e = .returned (.int .i32 (ror a n)) ∧ w = w' := by
  have hr := ror_right a n
  go_enter Try.func60, Try.ntmps60
  go_wp2
  go_ret
  exact ⟨ret_int hr, rfl⟩
end Go.Proofs.Ytflinbfobadheaa
