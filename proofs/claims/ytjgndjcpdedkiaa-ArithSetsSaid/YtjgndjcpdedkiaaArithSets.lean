/- The walk of ArithSets: it returns true, whatever the numbers. -/
import Derived.Test.YtjgndjcpdedkiaaArithLaws
import Derived.Deep.DeepCutAuto
import Derived.Deep.QuietTactic
import Derived.BigQuiet
namespace Go.Proofs.Ytjgndjcpdedkiaa
open Go.RowKit Go.Waf
set_option maxRecDepth 100000
set_option linter.unusedVariables false
attribute [local go_sem] mask31_u64 mask31_u32 mask31_i32 mask63_i32 mask1_i32 wrap_u64_mod wrap_u32_mod wrap_u64_mod32 wrap32_wrap64 wrap32_u32

set_option maxHeartbeats 1600000 in
theorem below_drewN {B : Nat} {a w : World} (h : Below B a w) (n : Nat) : Below B a (w.drewN n) := ⟨h.os, h.tape, h.output, h.size, h.block⟩
theorem quiet_left {P : Program} {f : FuncId} {args : Array Value} {w : World} {n : Nat} {v : Value}
    (h : Calls P f args (w.drewN n) fun e w' => e = .returned v ∧ w.drewN n = w') : Calls P f args (w.drewN n) fun e w'' => e = .returned v ∧ ∃ m, w'' = w.drewN m :=
  h.mono fun _ _ ⟨he, hm⟩ => ⟨he, n, hm.symm⟩
set_option maxHeartbeats 1600000 in
theorem arithSets_walk (a b n s : Int) (ha : -2147483648 ≤ a ∧ a ≤ 2147483647) (hb : -2147483648 ≤ b ∧ b ≤ 2147483647) (hn : -2147483648 ≤ n ∧ n ≤ 2147483647) (hs : -2147483648 ≤ s ∧ s ≤ 2147483647) (w : World) : Calls Try.prog 11 #[.int .i32 a, .int .i32 b, .int .i32 n, .int .i32 s] w fun e w' => e = .returned (.bool true) ∧ Below w.heap.size w w' := by
  go_enter Try.func11, Try.ntmps11
  go_wp2_with (first | (go_at_call 23; refine (known3 _).mono ?_; rintro e w' ⟨rfl, rfl⟩))
  go_loop [31] (fun i => ∃ k : Int, (k = 0 ∨ k = 1 ∨ k = 2 ∨ k = 3) ∧ i = .int .i64 k) (fun i => 3 - (intOf i).toNat)
  case atStart => exact ⟨0, by omega, rfl⟩
  case round =>
    obtain ⟨k, hk, rfl⟩ := hrel
    rcases hk with rfl | rfl | rfl | rfl
    · by_cases h : 0 ≤ n ∧ n < 32
      · go_wp2_with (first | (go_at_call 42; refine (bit_yes _ _ h.1 h.2).mono ?_; rintro e w' ⟨rfl, rfl⟩) | (go_at_call 43; refine (rbit_yes _ _ h.1 h.2).mono ?_; rintro e w' ⟨rfl, rfl⟩) | (go_at_call 25; refine (has_any _ _ _).mono ?_; rintro e w' ⟨rfl, rfl⟩) | (go_at_call 44; refine (rhas_any _ _ _ hs.1 hs.2).mono ?_; rintro e w' ⟨rfl, rfl⟩))
        go_round
        case rel => exact ⟨1, by omega, rfl⟩
        case measure => simp [intOf]
      · go_wp2_with (first | (go_at_call 42; refine (bit_no _ _ h).mono ?_; rintro e w' ⟨rfl, rfl⟩) | (go_at_call 43; refine (rbit_no _ _ h).mono ?_; rintro e w' ⟨rfl, rfl⟩) | (go_at_call 25; refine (has_any _ _ _).mono ?_; rintro e w' ⟨rfl, rfl⟩) | (go_at_call 44; refine (rhas_any _ _ _ hs.1 hs.2).mono ?_; rintro e w' ⟨rfl, rfl⟩))
        go_round
        case rel => exact ⟨1, by omega, rfl⟩
        case measure => simp [intOf]
    · by_cases h : 0 ≤ n % 32 ∧ n % 32 < 32
      · go_wp2_with (first | (go_at_call 42; refine (bit_yes _ _ h.1 h.2).mono ?_; rintro e w' ⟨rfl, rfl⟩) | (go_at_call 43; refine (rbit_yes _ _ h.1 h.2).mono ?_; rintro e w' ⟨rfl, rfl⟩) | (go_at_call 25; refine (has_any _ _ _).mono ?_; rintro e w' ⟨rfl, rfl⟩) | (go_at_call 44; refine (rhas_any _ _ _ hs.1 hs.2).mono ?_; rintro e w' ⟨rfl, rfl⟩))
        go_round
        case rel => exact ⟨2, by omega, rfl⟩
        case measure => simp [intOf]
      · go_wp2_with (first | (go_at_call 42; refine (bit_no _ _ h).mono ?_; rintro e w' ⟨rfl, rfl⟩) | (go_at_call 43; refine (rbit_no _ _ h).mono ?_; rintro e w' ⟨rfl, rfl⟩) | (go_at_call 25; refine (has_any _ _ _).mono ?_; rintro e w' ⟨rfl, rfl⟩) | (go_at_call 44; refine (rhas_any _ _ _ hs.1 hs.2).mono ?_; rintro e w' ⟨rfl, rfl⟩))
        go_round
        case rel => exact ⟨2, by omega, rfl⟩
        case measure => simp [intOf]
    · by_cases h : 0 ≤ n % 64 ∧ n % 64 < 32
      · go_wp2_with (first | (go_at_call 42; refine (bit_yes _ _ h.1 h.2).mono ?_; rintro e w' ⟨rfl, rfl⟩) | (go_at_call 43; refine (rbit_yes _ _ h.1 h.2).mono ?_; rintro e w' ⟨rfl, rfl⟩) | (go_at_call 25; refine (has_any _ _ _).mono ?_; rintro e w' ⟨rfl, rfl⟩) | (go_at_call 44; refine (rhas_any _ _ _ hs.1 hs.2).mono ?_; rintro e w' ⟨rfl, rfl⟩))
        go_round
        case rel => exact ⟨3, by omega, rfl⟩
        case measure => simp [intOf]
      · go_wp2_with (first | (go_at_call 42; refine (bit_no _ _ h).mono ?_; rintro e w' ⟨rfl, rfl⟩) | (go_at_call 43; refine (rbit_no _ _ h).mono ?_; rintro e w' ⟨rfl, rfl⟩) | (go_at_call 25; refine (has_any _ _ _).mono ?_; rintro e w' ⟨rfl, rfl⟩) | (go_at_call 44; refine (rhas_any _ _ _ hs.1 hs.2).mono ?_; rintro e w' ⟨rfl, rfl⟩))
        go_round
        case rel => exact ⟨3, by omega, rfl⟩
        case measure => simp [intOf]
    · go_wp2_with fail
      obtain ⟨W0, hW0⟩ : ∃ W0, W0 = (w.alloc (Obj.cells #[Value.int IntKind.i32 n, Value.int IntKind.i32 (n % 32), Value.int IntKind.i32 (n % 64)] 21)).alloc (Obj.cells #[Value.int IntKind.i32 a, Value.int IntKind.i32 b, Value.int IntKind.i32 (a % 32), Value.int IntKind.i32 (b % 32)] 64) := ⟨_, rfl⟩
      have hb0 : Below w.heap.size w W0 := by rw [hW0]; exact ((Below.refl _ _).alloc (Nat.le_refl _) _).alloc (by simp) _
      have hz0 : W0.heap.size = w.heap.size + 2 := by rw [hW0]; simp
      have c0 : W0.cell? ⟨w.heap.size + 1, 0, none⟩ = some (.int .i32 a) := by rw [hW0]; simp [go_sem]
      have c1 : W0.cell? ⟨w.heap.size + 1, 1, none⟩ = some (.int .i32 b) := by rw [hW0]; simp [go_sem]
      have c2 : W0.cell? ⟨w.heap.size + 1, 2, none⟩ = some (.int .i32 (a % 32)) := by rw [hW0]; simp [go_sem]
      have c3 : W0.cell? ⟨w.heap.size + 1, 3, none⟩ = some (.int .i32 (b % 32)) := by rw [hW0]; simp [go_sem]
      rw [← hW0]
      have HW0 := Lib.hid hW0
      have HZ0 := Lib.hid hz0
      have hzz : w.heap.size + 1 < W0.heap.size := by omega
      clear hW0 hz0
      go_loopw [73] (fun i wr => ∃ k : Int, (k = 0 ∨ k = 1 ∨ k = 2) ∧ i = .int .i64 k ∧ Below W0.heap.size W0 wr) (fun i _ => 2 - (intOf i).toNat)
      case atStart => exact ⟨0, by omega, rfl, Below.refl _ _⟩
      case round =>
        obtain ⟨k, hk, rfl, hbw⟩ := hrel
        have d0 := (hbw.cell (p := ⟨w.heap.size + 1, 0, none⟩) hzz).trans c0
        have d1 := (hbw.cell (p := ⟨w.heap.size + 1, 1, none⟩) hzz).trans c1
        have d2 := (hbw.cell (p := ⟨w.heap.size + 1, 2, none⟩) hzz).trans c2
        have d3 := (hbw.cell (p := ⟨w.heap.size + 1, 3, none⟩) hzz).trans c3
        clear c0 c1 c2 c3
        have hsz := hbw.size
        rcases hk with rfl | rfl | rfl
        · by_cases h : 0 ≤ a ∧ a < 32 ∧ 0 ≤ b ∧ b < 32
          · obtain ⟨h0, h1, h2, h3⟩ := h
            have HB : ∀ j : Nat, j < 32 → hasBit j (span (a).toNat (b + 1 - a).toNat).toInt = (decide (a ≤ j) && decide ((j : Int) ≤ b)) := by
              intro j hj
              by_cases hab : a ≤ b + 1
              · rw [span_has _ _ _ (by omega) hj, Bool.eq_iff_iff]; simp; omega
              · rw [show (b + 1 - a).toNat = 0 by omega, span_has _ _ _ (by omega) hj, Bool.eq_iff_iff]; simp; omega
            have HS := Lib.hid HB
            clear HB
            go_wp2_with (first | (go_at_call 24; refine (span_yes _ _ _ (by omega) (by omega) (by omega) (by omega)).mono ?_; rintro e w' ⟨rfl, rfl⟩) | (go_at_call 45; refine (rspan_yes _ _ _ (by omega) (by omega) (by omega) (by omega)).mono ?_; rintro e w' ⟨rfl, rfl⟩))
            obtain ⟨W2, hW2⟩ : ∃ W2, W2 = wr.alloc (Obj.cells #[Value.int IntKind.i32 (a), Value.int IntKind.i32 (b)] 64) := ⟨_, rfl⟩
            have e0 : W2.cell? ⟨wr.heap.size, 0, none⟩ = some (.int .i32 (a)) := by rw [hW2]; simp [go_sem]
            have e1 : W2.cell? ⟨wr.heap.size, 1, none⟩ = some (.int .i32 (b)) := by rw [hW2]; simp [go_sem]
            have hb2 : Below W0.heap.size W0 W2 := by rw [hW2]; exact hbw.alloc hsz _
            rw [← hW2]
            clear hW2 d0 d1 d2 d3
            go_loopw [21] (fun i w2 => ∃ j : Nat, j ≤ 32 ∧ i = .int .i32 j ∧ w2.cell? ⟨wr.heap.size, 0, none⟩ = some (.int .i32 (a)) ∧ w2.cell? ⟨wr.heap.size, 1, none⟩ = some (.int .i32 (b)) ∧ Below W0.heap.size W0 w2) (fun i _ => 32 - (intOf i).toNat)
            case atStart => exact ⟨0, by omega, rfl, e0, e1, hb2⟩
            case round w2 =>
              obtain ⟨j, hj, rfl, e0, e1, hb2⟩ := hrel
              by_cases hlt : j < 32
              · by_cases hlo : a ≤ j
                · have hd : decide (a ≤ (j : Int)) = true := by simp [hlo]
                  by_cases hhi : (j : Int) ≤ b
                  · have hd2 : decide ((j : Int) ≤ b) = true := by simp [hhi]
                    have hh : hasBit j (span (a).toNat (b + 1 - a).toNat).toInt = true := by rw [HS.out j hlt, hd, hd2]; rfl
                    go_wp2_with fail
                    go_quiet ((go_at_call 25; exact quiet_left (has_any _ _ _)))
                    go_wp2_with fail
                    go_roundw
                    case rel => exact ⟨j + 1, by omega, i32_eq (by omega), by simpa using e0, by simpa using e1, below_drewN hb2 _⟩
                    case measure => simp [intOf]; omega
                  · have hd2 : decide ((j : Int) ≤ b) = false := by simp [hhi]
                    have hh : hasBit j (span (a).toNat (b + 1 - a).toNat).toInt = false := by rw [HS.out j hlt, hd, hd2]; rfl
                    go_wp2_with fail
                    go_quiet ((go_at_call 25; exact quiet_left (has_any _ _ _)))
                    go_wp2_with fail
                    go_roundw
                    case rel => exact ⟨j + 1, by omega, i32_eq (by omega), by simpa using e0, by simpa using e1, below_drewN hb2 _⟩
                    case measure => simp [intOf]; omega
                · have hd : decide (a ≤ (j : Int)) = false := by simp [hlo]
                  have hh : hasBit j (span (a).toNat (b + 1 - a).toNat).toInt = false := by rw [HS.out j hlt, hd]; rfl
                  go_wp2_with fail
                  go_quiet ((go_at_call 25; exact quiet_left (has_any _ _ _)))
                  go_wp2_with fail
                  go_roundw
                  case rel => exact ⟨j + 1, by omega, i32_eq (by omega), by simpa using e0, by simpa using e1, below_drewN hb2 _⟩
                  case measure => simp [intOf]; omega
              · have hge : 32 ≤ j := by omega
                go_wp2_with fail
                go_roundw
                case rel => exact ⟨1, by omega, rfl, hb2⟩
                case measure => simp [intOf]
          · go_wp2_with (first | (go_at_call 24; refine (span_no _ _ _ h).mono ?_; rintro e w' ⟨rfl, rfl⟩) | (go_at_call 45; refine (rspan_no _ _ _ h).mono ?_; rintro e w' ⟨rfl, rfl⟩))
            refine wp_loop_once ?_
            go_wp2_with fail
            go_roundw
            case rel => exact ⟨1, by omega, rfl, hbw.alloc hsz _⟩
            case measure => simp [intOf]
        · by_cases h : 0 ≤ a % 32 ∧ a % 32 < 32 ∧ 0 ≤ b % 32 ∧ b % 32 < 32
          · obtain ⟨h0, h1, h2, h3⟩ := h
            have HB : ∀ j : Nat, j < 32 → hasBit j (span (a % 32).toNat (b % 32 + 1 - a % 32).toNat).toInt = (decide (a % 32 ≤ j) && decide ((j : Int) ≤ b % 32)) := by
              intro j hj
              by_cases hab : a % 32 ≤ b % 32 + 1
              · rw [span_has _ _ _ (by omega) hj, Bool.eq_iff_iff]; simp; omega
              · rw [show (b % 32 + 1 - a % 32).toNat = 0 by omega, span_has _ _ _ (by omega) hj, Bool.eq_iff_iff]; simp; omega
            have HS := Lib.hid HB
            clear HB
            go_wp2_with (first | (go_at_call 24; refine (span_yes _ _ _ (by omega) (by omega) (by omega) (by omega)).mono ?_; rintro e w' ⟨rfl, rfl⟩) | (go_at_call 45; refine (rspan_yes _ _ _ (by omega) (by omega) (by omega) (by omega)).mono ?_; rintro e w' ⟨rfl, rfl⟩))
            obtain ⟨W2, hW2⟩ : ∃ W2, W2 = wr.alloc (Obj.cells #[Value.int IntKind.i32 (a % 32), Value.int IntKind.i32 (b % 32)] 64) := ⟨_, rfl⟩
            have e0 : W2.cell? ⟨wr.heap.size, 0, none⟩ = some (.int .i32 (a % 32)) := by rw [hW2]; simp [go_sem]
            have e1 : W2.cell? ⟨wr.heap.size, 1, none⟩ = some (.int .i32 (b % 32)) := by rw [hW2]; simp [go_sem]
            have hb2 : Below W0.heap.size W0 W2 := by rw [hW2]; exact hbw.alloc hsz _
            rw [← hW2]
            clear hW2 d0 d1 d2 d3
            go_loopw [21] (fun i w2 => ∃ j : Nat, j ≤ 32 ∧ i = .int .i32 j ∧ w2.cell? ⟨wr.heap.size, 0, none⟩ = some (.int .i32 (a % 32)) ∧ w2.cell? ⟨wr.heap.size, 1, none⟩ = some (.int .i32 (b % 32)) ∧ Below W0.heap.size W0 w2) (fun i _ => 32 - (intOf i).toNat)
            case atStart => exact ⟨0, by omega, rfl, e0, e1, hb2⟩
            case round w2 =>
              obtain ⟨j, hj, rfl, e0, e1, hb2⟩ := hrel
              by_cases hlt : j < 32
              · by_cases hlo : a % 32 ≤ j
                · have hd : decide (a % 32 ≤ (j : Int)) = true := by simp [hlo]
                  by_cases hhi : (j : Int) ≤ b % 32
                  · have hd2 : decide ((j : Int) ≤ b % 32) = true := by simp [hhi]
                    have hh : hasBit j (span (a % 32).toNat (b % 32 + 1 - a % 32).toNat).toInt = true := by rw [HS.out j hlt, hd, hd2]; rfl
                    go_wp2_with fail
                    go_quiet ((go_at_call 25; exact quiet_left (has_any _ _ _)))
                    go_wp2_with fail
                    go_roundw
                    case rel => exact ⟨j + 1, by omega, i32_eq (by omega), by simpa using e0, by simpa using e1, below_drewN hb2 _⟩
                    case measure => simp [intOf]; omega
                  · have hd2 : decide ((j : Int) ≤ b % 32) = false := by simp [hhi]
                    have hh : hasBit j (span (a % 32).toNat (b % 32 + 1 - a % 32).toNat).toInt = false := by rw [HS.out j hlt, hd, hd2]; rfl
                    go_wp2_with fail
                    go_quiet ((go_at_call 25; exact quiet_left (has_any _ _ _)))
                    go_wp2_with fail
                    go_roundw
                    case rel => exact ⟨j + 1, by omega, i32_eq (by omega), by simpa using e0, by simpa using e1, below_drewN hb2 _⟩
                    case measure => simp [intOf]; omega
                · have hd : decide (a % 32 ≤ (j : Int)) = false := by simp [hlo]
                  have hh : hasBit j (span (a % 32).toNat (b % 32 + 1 - a % 32).toNat).toInt = false := by rw [HS.out j hlt, hd]; rfl
                  go_wp2_with fail
                  go_quiet ((go_at_call 25; exact quiet_left (has_any _ _ _)))
                  go_wp2_with fail
                  go_roundw
                  case rel => exact ⟨j + 1, by omega, i32_eq (by omega), by simpa using e0, by simpa using e1, below_drewN hb2 _⟩
                  case measure => simp [intOf]; omega
              · have hge : 32 ≤ j := by omega
                go_wp2_with fail
                go_roundw
                case rel => exact ⟨2, by omega, rfl, hb2⟩
                case measure => simp [intOf]
          · exact absurd h (by omega)
        · go_wp2_with fail
          go_ret
          exact ⟨rfl, hb0.trans (hbw.mono (by omega))⟩
end Go.Proofs.Ytjgndjcpdedkiaa
