/- The walks of ArithParts and ArithSets: each returns true, whatever the numbers. -/
import Derived.Test.YtjgndjcpdedkiaaArithLaws
import Derived.Deep.DeepCutAuto
namespace Go.Proofs.Ytjgndjcpdedkiaa
open Go.RowKit Go.Waf
set_option maxRecDepth 100000
attribute [local go_sem] mask31_u64 mask31_u32 mask31_i32 mask63_i32 mask1_i32 wrap_u64_mod wrap_u32_mod wrap_u64_mod32 wrap32_wrap64 wrap32_u32

theorem arithParts_walk (a b c : Int) (ha : 0 ≤ a ∧ a ≤ 255) (hb : 0 ≤ b ∧ b ≤ 255) (hc : 0 ≤ c ∧ c ≤ 255) (w : World) : Calls Try.prog 5 #[.int .u8 a, .int .u8 b, .int .u8 c] w fun e w' => e = .returned (.bool true) ∧ w = w' := by
  obtain ⟨ha0, ha1⟩ := ha
  obtain ⟨hb0, hb1⟩ := hb
  obtain ⟨hc0, hc1⟩ := hc
  go_enter Try.func5, Try.ntmps5
  go_upto_if 31 with (go_at_call 23; refine (known3 _).mono ?_; rintro e w' ⟨rfl, rfl⟩)
  go_cut [7, 8] (fun x y w1 => w = w1 ∧ ∃ X Y : Int, 0 ≤ X ∧ X ≤ Y ∧ Y < 32 ∧ x = .int .i32 X ∧ y = .int .i32 Y)
  case first =>
    by_cases hs : b % 32 < a % 32
    · go_wp2
      go_meet
      case rel => exact ⟨rfl, b % 32, a % 32, by omega, by omega, by omega, rfl, rfl⟩
    · go_wp2
      go_meet
      case rel => exact ⟨rfl, a % 32, b % 32, by omega, by omega, by omega, rfl, rfl⟩
  case rest =>
    obtain ⟨rfl, X, Y, hX, hXY, hY, rfl, rfl⟩ := hcut
    go_upto_region 6 with fail
    go_cut [41] (fun t w1 => w = w1 ∧ ((t = .bool true ∧ ¬ (X ≤ c % 32 ∧ c % 32 < Y)) ∨ (t = .bool false ∧ X ≤ c % 32 ∧ c % 32 < Y)))
    case first =>
      by_cases h1 : c % 32 < X
      · go_wp2
        go_meet
        case rel => exact ⟨rfl, .inl ⟨rfl, by omega⟩⟩
      by_cases h2 : Y ≤ c % 32
      · go_wp2
        go_meet
        case rel => exact ⟨rfl, .inl ⟨by simp, by omega⟩⟩
      · go_wp2
        go_meet
        case rel => exact ⟨rfl, .inr ⟨by simp, by omega⟩⟩
    case rest =>
    obtain ⟨rfl, ht⟩ := hcut
    go_upto_if 41 with fail
    go_cut [9] (fun z w1 => w = w1 ∧ ∃ Z : Int, X ≤ Z ∧ (Z < Y ∨ Z = X) ∧ z = .int .i32 Z)
    case first =>
      rcases ht with ⟨rfl, ht⟩ | ⟨rfl, ht⟩
      · go_wp2
        go_meet
        case rel => exact ⟨rfl, X, by omega, by omega, rfl⟩
      · go_wp2
        go_meet
        case rel => exact ⟨rfl, c % 32, by omega, by omega, rfl⟩
    case rest =>
      obtain ⟨rfl, Z, hZ, hZY, rfl⟩ := hcut
      clear ht
      have e1 : (span (Z + 1).toNat (Y - Z).toNat) = span (X.toNat + (Z + 1 - X).toNat) (Y - Z).toNat := by congr 1; omega
      have hu : bits .or .i32 (span X.toNat (Z + 1 - X).toNat).toInt (span (Z + 1).toNat (Y - Z).toNat).toInt = (span X.toNat (Y + 1 - X).toNat).toInt := by
        rw [e1, span_union]; congr 2; omega
      have hn : bits .and .i32 (span X.toNat (Z + 1 - X).toNat).toInt (span (Z + 1).toNat (Y - Z).toNat).toInt = 0 := by
        rw [e1, span_apart _ _ _ (by omega)]
      have hb : ∀ j : Nat, j < 32 → hasBit j (span X.toNat (Y + 1 - X).toNat).toInt = (decide (X ≤ j) && decide ((j : Int) ≤ Y)) := by
        intro j hj
        rw [span_has _ _ _ (by omega) hj, Bool.eq_iff_iff]; simp; omega
      have h32 : hasBit 32 (span X.toNat (Y + 1 - X).toNat).toInt = false := hasBit_out _ _ (by omega)
      have hm1 : hasBit (-1) (span X.toNat (Y + 1 - X).toNat).toInt = false := hasBit_out _ _ (by omega)
      have hz0 : Z = Y → (span (Z + 1).toNat (Y - Z).toNat).toInt = 0 := by
        intro h; rw [h, show (Y - Y).toNat = 0 by omega]; exact BitVec.toInt_zero
      generalize hA : (span X.toNat (Y + 1 - X).toNat).toInt = A at *
      generalize hL : (span X.toNat (Z + 1 - X).toNat).toInt = L at *
      generalize hR : (span (Z + 1).toNat (Y - Z).toNat).toInt = R at *
      have HU := Lib.hid hu; have HN := Lib.hid hn; have HB := Lib.hid hb; have H32 := Lib.hid h32; have HM1 := Lib.hid hm1; have HZ0 := Lib.hid hz0
      have HA := Lib.hid hA; have HL := Lib.hid hL; have HR := Lib.hid hR
      clear hu hn hb h32 hm1 hz0 hA hL hR e1
      go_wp2_with fail
      refine (span_yes _ _ _ (by omega) (by omega) (by omega) (by omega)).mono ?_; rintro e w' ⟨rfl, rfl⟩
      rw [HA.out]
      go_wp2_with fail
      refine (span_yes _ _ _ (by omega) (by omega) (by omega) (by omega)).mono ?_; rintro e w' ⟨rfl, rfl⟩
      rw [HL.out]
      go_upto_region 10 with fail
      go_cut [14, 15] (fun r ok w1 => w = w1 ∧ (Z ≠ Y → r = .int .i32 R ∧ ok = .bool true) ∧ ∃ q : Int, ∃ p : Bool, r = .int .i32 q ∧ ok = .bool p)
      case first =>
        by_cases hz1 : Z + 1 < 32
        · go_wp2_with (go_at_call 24; refine (span_yes _ _ _ (by omega) (by omega) (by omega) (by omega)).mono ?_; rintro e w' ⟨rfl, rfl⟩)
          go_meet
          case rel => exact ⟨rfl, fun _ => ⟨by rw [← HR.out, show (Y + 1 - (Z + 1)) = Y - Z by omega], rfl⟩, _, _, rfl, rfl⟩
        · go_wp2_with (go_at_call 24; refine (span_no _ _ _ (by omega)).mono ?_; rintro e w' ⟨rfl, rfl⟩)
          go_meet
          case rel => exact ⟨rfl, fun h => absurd h (by omega), _, _, rfl, rfl⟩
      case rest =>
      obtain ⟨rfl, hr, q, p, rfl, rfl⟩ := hcut
      go_upto_if 64 with fail
      go_cut [14, 15] (fun r ok w1 => w = w1 ∧ r = .int .i32 R ∧ ok = .bool true)
      case first =>
        by_cases hzy : Z = Y
        · have hR0 := HZ0.out hzy
          have hzb : (Z == Y) = true := by simp [hzy]
          have HR0 := Lib.hid hR0
          clear hr hR0
          go_wp2
          go_meet
          case rel => exact ⟨rfl, by rw [HR0.out], rfl⟩
        · have hr := hr hzy
          obtain ⟨hr1, hr2⟩ := hr
          have H1 := Lib.hid hr1
          have H2 := Lib.hid hr2
          have hzb : (Z == Y) = false := by simp [hzy]
          clear hr1 hr2
          go_wp2
          go_meet
          case rel => exact ⟨rfl, H1.out, H2.out⟩
      case rest =>
      obtain ⟨rfl, rfl, rfl⟩ := hcut
      clear hr
      go_wp2_with fail
      go_loop [16, 17] (fun n i => ∃ j : Nat, j ≤ 32 ∧ i = .int .i32 j ∧ n = .int .i32 (((min (j : Int) (Y + 1) - X).toNat : Nat) : Int)) (fun _ i => 32 - (intOf i).toNat)
      case atStart => exact ⟨0, by omega, rfl, i32_eq (by omega)⟩
      case round =>
        obtain ⟨j, hj, rfl, rfl⟩ := hrel
        by_cases hlt : j < 32
        · by_cases hin : X ≤ j ∧ (j : Int) ≤ Y
          · have hh : hasBit j A = true := by rw [HB.out j hlt]; simp; omega
            go_wp2_with (first | (go_at_call 25; refine (has_any _ _ _).mono ?_; rintro e w' ⟨rfl, rfl⟩))
            go_round
            case rel => exact ⟨j + 1, by omega, i32_eq (by omega), i32_eq (by omega)⟩
            case measure => simp [intOf]; omega
          · have hh : hasBit j A = false := by rw [HB.out j hlt]; simp; omega
            go_wp2_with (first | (go_at_call 25; refine (has_any _ _ _).mono ?_; rintro e w' ⟨rfl, rfl⟩))
            go_round
            case rel => exact ⟨j + 1, by omega, i32_eq (by omega), i32_eq (by omega)⟩
            case measure => simp [intOf]; omega
        · have hge : 32 ≤ j := by omega
          have hcnt : ((min (j : Int) (Y + 1) - X).toNat : Int) = Y - X + 1 := by omega
          have hu := HU.out; have hn := HN.out; have h32 := H32.out; have hm1 := HM1.out
          go_wp2_with (first | (go_at_call 25; refine (has_any _ _ _).mono ?_; rintro e w' ⟨rfl, rfl⟩))
          go_ret
          exact ⟨rfl, rfl⟩
end Go.Proofs.Ytjgndjcpdedkiaa
