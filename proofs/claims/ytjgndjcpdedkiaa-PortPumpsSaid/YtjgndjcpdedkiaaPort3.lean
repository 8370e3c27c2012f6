/- Contracts of filled. -/
import Derived.Test.YtjgndjcpdedkiaaPort2
namespace Go.Proofs.Ytjgndjcpdedkiaa
open Go.RowKit Go.Waf Go.Conc
set_option maxRecDepth 100000
set_option linter.unusedVariables false

set_option maxHeartbeats 800000 in
theorem pfilled_any (w : World) (N : Nat) (hN0 : 1 ≤ N) (hN1 : N ≤ 4096) (v : Value) (n : Nat) (xs : List Int) (hr : Rd w 1 v n (byt xs)) (hn : n ≤ 1000) :
    Calls Try.prog 16 #[.int .i64 N, v] w fun e w' => ∃ g h, e = .returned (.pointer (some ⟨g, 0, none⟩)) ∧ PortAt w' w.heap.size g h N (xs.take N) false ∧ Below w.heap.size w w' := by
  have hlen : xs.length = n := by have := hr.1; simpa [byt] using this
  obtain ⟨a, cap, rfl, c1, c2, c3⟩ := rd_shape hr
  unfold maxLen at c2
  have R := Lib.hid hr
  have HL := Lib.hid hlen
  clear hr hlen
  go_enter Try.func16, Try.ntmps16
  go_wp2_with fail
  refine (pnew_any _ N N (.inr (.inl ⟨rfl, hN0, hN1⟩))).mono ?_; rintro e w1 ⟨g, h, rfl, p1, b1⟩
  have P1 := Lib.hid p1
  have B1 := Lib.hid b1
  clear p1 b1
  go_wp2_with fail
  go_loopw [6] (fun i wr => ∃ k : Nat, k ≤ n ∧ i = .int .i64 (k : Int) ∧ PortAt wr w.heap.size g h N (xs.take (min k N)) false ∧ Below w.heap.size w wr) (fun i _ => n - (intOf i).toNat)
  case atStart => exact ⟨0, by omega, rfl, by simpa using P1.out, B1.out⟩
  case round =>
    obtain ⟨k, hk, rfl, hp, hb⟩ := hrel
    have HP := Lib.hid hp
    have HB := Lib.hid hb
    clear hp hb
    by_cases hlt : k < n
    · obtain ⟨ab, ao, rfl, hc⟩ := Rd_at (R.out.below HB.out (Nat.le_refl _)) (by omega)
      obtain ⟨c, hck⟩ : ∃ c, xs[k]? = some c := ⟨_, List.getElem?_eq_getElem (by rw [HL.out]; exact hlt)⟩
      have cin : wr.cell? ⟨ab, ao + k, none⟩ = some (.int .u8 c) := hc k _ (by rw [byt, List.getElem?_map, hck]; rfl)
      clear hc
      by_cases hkN : k < N
      · have e1 : xs.take (min k N) = xs.take k := by rw [Nat.min_eq_left (by omega)]
        have e2 : xs.take (min (k + 1) N) = xs.take k ++ [c] := by rw [Nat.min_eq_left (by omega), List.take_add_one, hck]; rfl
        have hp := HP.out
        rw [e1] at hp
        have HO := Lib.hid (poffer_room _ _ _ _ _ _ hp c (by rw [List.length_take, HL.out]; omega))
        have HE := Lib.hid e2
        clear e1 e2 hp hck
        go_wp2_with fail
        refine HO.out.mono ?_; rintro e w2 ⟨rfl, p2, f2⟩
        have B2 := Lib.hid (HB.out.trans (f2.below HB.out.size fun i hi hk => by have := HP.out.base; omega))
        have P2 := Lib.hid p2
        clear p2 f2
        go_wp2_with fail
        go_roundw
        case rel => exact ⟨k + 1, by omega, by go_num, by rw [HE.out]; exact P2.out, B2.out⟩
        case measure => simp [intOf]; omega
      · have e1 : xs.take (min k N) = xs.take N := by rw [Nat.min_eq_right (by omega)]
        have e2 : xs.take (min (k + 1) N) = xs.take N := by rw [Nat.min_eq_right (by omega)]
        have hp := HP.out
        rw [e1] at hp
        have HO := Lib.hid (poffer_full _ _ _ _ _ _ hp c (by rw [List.length_take, HL.out]; omega))
        have HE := Lib.hid e2
        have HP2 := Lib.hid hp
        clear e1 e2 hp hck
        go_wp2_with fail
        refine HO.out.mono ?_; rintro e w2 ⟨rfl, rfl⟩
        go_wp2_with fail
        go_roundw
        case rel => exact ⟨k + 1, by omega, by go_num, by rw [HE.out]; exact HP2.out, HB.out⟩
        case measure => simp [intOf]; omega
    · obtain rfl : k = n := by omega
      go_wp2_with fail
      go_ret
      refine ⟨g, h, rfl, ?_, HB.out⟩
      have hp := HP.out
      have e : xs.take (min k N) = xs.take N := by
        by_cases h1 : k ≤ N
        · rw [Nat.min_eq_left h1, List.take_of_length_le (by rw [HL.out]; omega), List.take_of_length_le (by rw [HL.out]; omega)]
        · rw [Nat.min_eq_right (by omega)]
      rwa [e] at hp
end Go.Proofs.Ytjgndjcpdedkiaa
