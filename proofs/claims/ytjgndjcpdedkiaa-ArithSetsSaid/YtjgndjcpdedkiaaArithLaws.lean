/- The walks of the statements of layer 3: each returns true, whatever the numbers; the world stays as it is. -/
import Derived.Test.YtjgndjcpdedkiaaArith
import Derived.RowKit3
namespace Go.Proofs.Ytjgndjcpdedkiaa
open Go.RowKit Go.Waf
attribute [local go_sem] mask31_u64 mask31_u32 mask31_i32 mask1_i32 wrap_u64_mod wrap_u32_mod wrap_u64_mod32 wrap32_wrap64 wrap32_u32

theorem known3 (w : World) : Calls Try.prog 23 #[] w fun e w' => e = .returned (.bool true) ∧ w = w' := by
  have s1 : (span 1 3).toInt = 14 := by decide
  have s2 : hasBit 2 14 = true := by decide
  go_enter Try.func23, Try.ntmps23
  go_wp2_with fail
  refine (div_yes _ _ _ (by decide) (by decide) (by decide)).mono ?_; rintro e w' ⟨rfl, rfl⟩
  go_wp2_with fail
  refine (mod_yes _ _ _ (by decide) (by decide)).mono ?_; rintro e w' ⟨rfl, rfl⟩
  go_wp2_with fail
  refine (div_no _ _ _ (by decide)).mono ?_; rintro e w' ⟨rfl, rfl⟩
  go_wp2_with fail
  refine (span_yes _ _ _ (by decide) (by decide) (by decide) (by decide)).mono ?_; rintro e w' ⟨rfl, rfl⟩
  go_wp2_with fail
  refine (has_any _ _ _).mono ?_; rintro e w' ⟨rfl, rfl⟩
  go_wp2_with fail
  refine (add_any _ _ _).mono ?_; rintro e w' ⟨rfl, rfl⟩
  go_wp2_with fail
  go_ret
  exact ⟨ret_bool (by rw [IntWalk.wrap32_in 3 (by decide)]; rfl), rfl⟩

theorem arithInts_walk (a b : Int) (ha : -2147483648 ≤ a ∧ a ≤ 2147483647) (hb : -2147483648 ≤ b ∧ b ≤ 2147483647) (w : World) : Calls Try.prog 10 #[.int .i32 a, .int .i32 b] w fun e w' => e = .returned (.bool true) ∧ w = w' := by
  obtain ⟨ha0, ha1⟩ := ha
  obtain ⟨hb0, hb1⟩ := hb
  by_cases h : 1 ≤ b
  · have hq : (wrap32 (wrap32 (a / b * b) + a % b) != a) = false := by rw [divmod_back a b ha0 ha1]; simp
    have hr : 0 ≤ a % b := Int.emod_nonneg _ (by omega)
    have hl : a % b < b := Int.emod_lt_of_pos _ (by omega)
    go_enter Try.func10, Try.ntmps10
    go_wp2_with (first | (go_at_call 23; refine (known3 _).mono ?_; rintro e w' ⟨rfl, rfl⟩) | (go_at_call 35; refine (div_yes _ _ _ h ha0 ha1).mono ?_; rintro e w' ⟨rfl, rfl⟩) | (go_at_call 36; refine (mod_yes _ _ _ h hb1).mono ?_; rintro e w' ⟨rfl, rfl⟩) | (go_at_call 37; refine (rdiv_yes _ _ _ h ha0 ha1 hb1).mono ?_; rintro e w' ⟨rfl, rfl⟩) | (go_at_call 38; refine (rmod_yes _ _ _ h hb1 ha0 ha1).mono ?_; rintro e w' ⟨rfl, rfl⟩) | (go_at_call 39; refine (add_any _ _ _).mono ?_; rintro e w' ⟨rfl, rfl⟩) | (go_at_call 41; refine (sub_any _ _ _).mono ?_; rintro e w' ⟨rfl, rfl⟩) | (go_at_call 40; refine (mul_any _ _ _).mono ?_; rintro e w' ⟨rfl, rfl⟩))
    go_ret
    exact ⟨rfl, rfl⟩
  · have h' : b < 1 := by omega
    go_enter Try.func10, Try.ntmps10
    go_wp2_with (first | (go_at_call 23; refine (known3 _).mono ?_; rintro e w' ⟨rfl, rfl⟩) | (go_at_call 35; refine (div_no _ _ _ h').mono ?_; rintro e w' ⟨rfl, rfl⟩) | (go_at_call 36; refine (mod_no _ _ _ h').mono ?_; rintro e w' ⟨rfl, rfl⟩) | (go_at_call 37; refine (rdiv_no _ _ _ h').mono ?_; rintro e w' ⟨rfl, rfl⟩) | (go_at_call 38; refine (rmod_no _ _ _ h').mono ?_; rintro e w' ⟨rfl, rfl⟩) | (go_at_call 39; refine (add_any _ _ _).mono ?_; rintro e w' ⟨rfl, rfl⟩) | (go_at_call 41; refine (sub_any _ _ _).mono ?_; rintro e w' ⟨rfl, rfl⟩) | (go_at_call 40; refine (mul_any _ _ _).mono ?_; rintro e w' ⟨rfl, rfl⟩))
    go_ret
    exact ⟨rfl, rfl⟩

theorem arithShifts_walk (a n : Int) (ha : -2147483648 ≤ a ∧ a ≤ 2147483647) (w : World) : Calls Try.prog 12 #[.int .i32 a, .int .i32 n] w fun e w' => e = .returned (.bool true) ∧ w = w' := by
  have hb := ror_back a n ha.1 (by omega)
  have HB := Lib.hid hb
  clear hb
  go_enter Try.func12, Try.ntmps12
  go_wp2_with (first | (go_at_call 23; refine (known3 _).mono ?_; rintro e w' ⟨rfl, rfl⟩) | (go_at_call 46; refine (lsl_any _ _ _).mono ?_; rintro e w' ⟨rfl, rfl⟩) | (go_at_call 48; refine (asr_any _ _ _).mono ?_; rintro e w' ⟨rfl, rfl⟩) | (go_at_call 50; refine (ror_any _ _ _).mono ?_; rintro e w' ⟨rfl, rfl⟩) | (go_at_call 47; refine (rlsl_any _ _ _).mono ?_; rintro e w' ⟨rfl, rfl⟩) | (go_at_call 49; refine (rasr_any _ _ _).mono ?_; rintro e w' ⟨rfl, rfl⟩) | (go_at_call 51; refine (rror_any _ _ _).mono ?_; rintro e w' ⟨rfl, rfl⟩))
  go_ret
  exact ⟨ret_bool (by rw [HB.out]; simp), rfl⟩

theorem arithRounds_walk (a n : Int) (ha : -2147483648 ≤ a ∧ a ≤ 2147483647) (hn0 : 0 ≤ n) (hn1 : n ≤ 255) (w : World) : Calls Try.prog 13 #[.int .i32 a, .int .u8 n] w fun e w' => e = .returned (.bool true) ∧ w = w' := by
  obtain ⟨ha0, ha1⟩ := ha
  obtain ⟨k, hk, hk'⟩ : ∃ k : Nat, k = (n % 31).toNat ∧ k ≤ 30 := ⟨_, rfl, by omega⟩
  have hp := pow_le30 k hk'
  have hpw : wrap32 (2 ^ (n % 31).toNat) = 2 ^ k := by rw [← hk]; exact IntWalk.wrap32_in _ (by omega)
  have hm := mask_i32 a k (by omega)
  have hkm : (n % 31) % 32 = n % 31 := by omega
  have hend := divmod_back a (2 ^ k) ha0 ha1
  have hback : wrap32 (a / 2 ^ k * 2 ^ k) = wrap32 (a - a % 2 ^ k) := by
    have := Int.mul_ediv_add_emod a (2 ^ k)
    congr 1
    rw [Int.mul_comm]; omega
  have Z := Lib.hid (rorN_zero a (bits .or .i32 (n % 32) 1) ha0 (by omega))
  have S := Lib.hid (fun i => rorN_succ a (bits .or .i32 (n % 32) 1) i)
  have F := Lib.hid (rorN_full a (bits .or .i32 (n % 32) 1) ha0 (by omega))
  have hk2 : (n % 31).toNat = k := hk.symm
  clear hk hend
  go_enter Try.func13, Try.ntmps13
  go_wp2_with (first | (go_at_call 23; refine (known3 _).mono ?_; rintro e w' ⟨rfl, rfl⟩))
  go_loop [5, 6] (fun x i => ∃ j : Nat, j ≤ 32 ∧ i = .int .i64 j ∧ x = .int .i32 (rorN a (bits .or .i32 (n % 32) 1) j)) (fun _ i => 32 - (intOf i).toNat)
  case atStart => exact ⟨0, by omega, rfl, i32_eq Z.out.symm⟩
  case round =>
    obtain ⟨j, hj, rfl, rfl⟩ := hrel
    by_cases hlt : j < 32
    · go_wp2_with (first | (go_at_call 50; refine (ror_any _ _ _).mono ?_; rintro e w' ⟨rfl, rfl⟩))
      go_round
      case rel => exact ⟨j + 1, by omega, by go_num, i32_eq (S.out j)⟩
      case measure => simp [intOf]; omega
    · have hx : rorN a (bits .or .i32 (n % 32) 1) j = a := by rw [show j = 32 by omega]; exact F.out
      have hge : 32 ≤ j := by omega
      go_wp2_with fail
      refine (div_yes _ _ _ (by omega) ha0 ha1).mono ?_; rintro e w' ⟨rfl, rfl⟩
      go_wp2_with fail
      refine (mod_yes _ _ _ (by omega) (by omega)).mono ?_; rintro e w' ⟨rfl, rfl⟩
      go_wp2_with fail
      refine (asr_any _ _ _).mono ?_; rintro e w' ⟨rfl, rfl⟩
      go_wp2_with fail
      refine (lsl_any _ _ _).mono ?_; rintro e w' ⟨rfl, rfl⟩
      go_wp2_with fail
      all_goals go_ret
      exact ⟨rfl, rfl⟩
end Go.Proofs.Ytjgndjcpdedkiaa
