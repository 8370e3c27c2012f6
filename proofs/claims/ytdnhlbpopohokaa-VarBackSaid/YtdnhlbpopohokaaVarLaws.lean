/- The walks of VarFew and VarSigned. -/
import Derived.Test.YtdnhlbpopohokaaVar2
import Derived.Test.YtdnhlbpopohokaaMem2
import Derived.Deep.DeepCutAuto
namespace Go.Proofs.Ytdnhlbpopohokaa
open Go.RowKit Go.Waf
set_option maxRecDepth 100000
attribute [local go_sem] or128 mask127_u8 mask1_u64 mask63_u8

theorem ret_bool {a b : Bool} (h : a = b) : Ending.returned (.bool a) = .returned (.bool b) := by rw [h]
theorem convB {w : World} {v : Value} {n : Nat} {xs : List Int} (hr : Rd w 1 v n (byt xs)) : (convert 22 9 v).run Try.prog w = .ok (.string (strOfNums xs)) w :=
  conv_rd Try.underlying22 Try.underlying5 Try.underlying9 hr

theorem rd_nil {w : World} : Rd w 1 (.slice none 0 0) 0 (byt []) := Rd.nil w 1

theorem putVar300 : putVar 300 = [172, 2] := by rw [putVar, if_neg (by decide), putVar, if_pos (by decide)]; rfl
theorem known2 (w : World) : Calls Try.prog 7 #[] w fun e w' => e = .returned (.bool true) ∧ Below w.heap.size w w' := by
  have z3 : zig (-3) = 5 := by decide
  go_enter Try.func7, Try.ntmps7
  go_wp2_with fail
  refine ownRet_mono (put_any _ _ _ [] rd_nil (by omega) 300 (by omega)) _ ?_
  intro b w1 hb1 hw1
  rw [putVar300] at hb1
  have r1 := rd_of_owns hb1
  have c1 := convB r1
  have R1 := Lib.hid r1
  clear r1 hb1
  go_wp2_with fail
  refine (read_any _ _ _ [172, 2] R1.out (by intro x hx; simp at hx; omega) 300 2 true (by decide)).mono ?_; rintro e w' ⟨rfl, rfl⟩
  go_wp2_with fail
  refine ownRet_mono (putInt_any _ _ _ [] rd_nil (by omega) (-3) (by omega) (by omega)) _ ?_
  intro d w2 hd2 hw2
  rw [z3, putVar_lt 5 (by decide)] at hd2
  have r2 := rd_of_owns hd2
  have c2 := convB (R1.out.below hw2 (Nat.le_refl _))
  have R2 := Lib.hid r2
  clear r2 hd2 c1 z3
  go_wp2_with fail
  refine (readInt_any _ _ _ [5] R2.out (by intro x hx; simp at hx; omega) 5 1 true (by decide)).mono ?_; rintro e w' ⟨rfl, rfl⟩
  have z5 : zag 5 = -3 := by decide
  have hs : ((strOfNums [172, 2]).toList == [172, 2]) = true := by decide +kernel
  go_wp2_with fail
  go_ret
  exact ⟨rfl, hw1.trans (hw2.mono hw1.size)⟩

theorem putVar_twin (k : Nat) : (putVar (2 * k + 1)).length = (putVar (2 * k)).length := by
  by_cases h : 2 * k < 128
  · rw [putVar_lt _ h, putVar_lt _ (by omega)]; rfl
  · rw [putVar_ge _ h, putVar_ge _ (by omega), show (2 * k + 1) / 128 = 2 * k / 128 by omega]; rfl
theorem readRes_put (v : Nat) (h : v < 18446744073709551616) : readRes (readVar (putVar v)) = (v, (putVar v).length, true) := by
  have := readVar_putVar v h []
  rw [List.append_nil] at this
  rw [this]; rfl

set_option maxHeartbeats 400000 in
theorem varSigned_core (V : Nat) (v : Int) (h0 : -9223372036854775808 ≤ v) (h1 : v ≤ 9223372036854775807) (hV : (v < 0 ∧ V = (-(v + 1)).toNat) ∨ (0 ≤ v ∧ V = v.toNat)) (w : World) : Calls Try.prog 6 #[.int .i64 v] w fun e w' => e = .returned (.bool true) ∧ Below w.heap.size w w' := by
  have hv1 : V ≤ 9223372036854775807 := by omega
  have z1 : zig (V : Int) = 2 * V := by unfold zig; rw [if_pos (by omega)]; omega
  have z2 : zig (-(V : Int) - 1) = 2 * V + 1 := by unfold zig; rw [if_neg (by omega)]; omega
  have tw := putVar_twin V
  obtain ⟨L, hL⟩ : ∃ L, L = (putVar (2 * V)).length := ⟨_, rfl⟩
  have hL10 : L ≤ 10 := by rw [hL]; exact putVar_len _ (by omega)
  have e1 := readRes_put (2 * V) (by omega)
  have e2 := readRes_put (2 * V + 1) (by omega)
  rw [← hL] at e1 tw
  rw [tw] at e2
  have Z1 := Lib.hid z1; have Z2 := Lib.hid z2; have TW := Lib.hid tw; have HL := Lib.hid hL; have E1 := Lib.hid e1; have E2 := Lib.hid e2
  clear z1 z2 tw hL e1 e2
  go_enter Try.func6, Try.ntmps6
  go_wp2_with fail
  refine (known2 _).mono ?_; rintro e w1 ⟨rfl, hb1⟩
  go_upto_if 12 with fail
  go_cut [0] (fun x w2 => w1 = w2 ∧ x = .int .i64 (V : Int))
  case first =>
    rcases hV with ⟨hn, hV⟩ | ⟨hn, hV⟩
    · have HV := Lib.hid hV
      clear hV
      go_wp2
      go_meet
      case rel => exact ⟨rfl, by rw [HV.out, Int.toNat_of_nonneg (by omega)]⟩
    · have HV := Lib.hid hV
      clear hV
      go_wp2
      go_meet
      case rel => exact ⟨rfl, by rw [HV.out, Int.toNat_of_nonneg (by omega)]⟩
  case rest =>
    obtain ⟨rfl, rfl⟩ := hcut
    clear hV
    go_wp2_with fail
    refine ownRet_mono (putInt_any _ _ _ [] rd_nil (by omega) (V : Int) (by omega) (by omega)) _ ?_
    intro b w2 ho2 hb2
    rw [Z1.out, List.nil_append] at ho2
    have R2 := Lib.hid (rd_of_owns ho2)
    clear ho2
    go_wp2_with fail
    refine (read_any _ _ _ _ R2.out (putVar_bytes _) _ _ _ E1.out).mono ?_; rintro e w' ⟨rfl, rfl⟩
    go_wp2_with fail
    refine ownRet_mono (putInt_any _ _ _ [] rd_nil (by omega) (-(V : Int) - 1) (by omega) (by omega)) _ ?_
    intro b' w3 ho3 hb3
    rw [Z2.out, List.nil_append] at ho3
    have R3 := Lib.hid (rd_of_owns ho3)
    clear ho3
    go_wp2_with fail
    refine (read_any _ _ _ _ R3.out (putVar_bytes _) _ _ _ E2.out).mono ?_; rintro e w' ⟨rfl, rfl⟩
    go_wp2_with fail
    go_ret
    exact ⟨ret_bool (by simp), hb1.trans ((hb2.mono hb1.size).trans (hb3.mono (Nat.le_trans hb1.size hb2.size)))⟩

theorem putVar_mono (a : Nat) : ∀ b, a ≤ b → (putVar a).length ≤ (putVar b).length := by
  induction a using Nat.strongRecOn with
  | ind a ih =>
    intro b hab
    by_cases h : a < 128
    · rw [putVar_lt a h]; have := putVar_pos b; simpa using this
    · rw [putVar_ge a h, putVar_ge b (by omega)]
      have := ih (a / 128) (by omega) (b / 128) (Nat.div_le_div_right hab)
      simpa using this
/-- The bytes of what is left. -/
def lenLeft (v : Nat) : Nat := if v = 0 then 0 else (putVar v).length
theorem lenLeft_start (A : Nat) : (putVar A).length = 1 + lenLeft (A / 128) := by
  unfold lenLeft
  by_cases h : A < 128
  · rw [putVar_lt A h, if_pos (by omega)]; rfl
  · rw [putVar_ge A h, if_neg (by omega)]; simp; omega
theorem lenLeft_step (v : Nat) (h : 0 < v) : lenLeft v = 1 + lenLeft (v / 128) := by
  rw [← lenLeft_start]; unfold lenLeft; rw [if_neg (by omega)]

set_option maxHeartbeats 800000 in
set_option linter.unusedVariables false in
theorem varFew_walk (a b : Nat) (cut : Int) (ha : a < 18446744073709551616) (hb : b < 18446744073709551616) (hc0 : 0 ≤ cut) (hc1 : cut ≤ 255) (w : World) : Calls Try.prog 5 #[.int .u64 a, .int .u64 b, .int .u8 cut] w fun e w' => e = .returned (.bool true) ∧ Below w.heap.size w w' := by
  obtain ⟨A, hA⟩ : ∃ A : Nat, (a : Int) / 2 ^ (cut % 64).toNat = A := ⟨a / 2 ^ (cut % 64).toNat, by simp⟩
  have hA1 : A < 18446744073709551616 := by
    have : A = a / 2 ^ (cut % 64).toNat := by have h : ((a / 2 ^ (cut % 64).toNat : Nat) : Int) = A := by simpa using hA
                                              omega
    rw [this]; exact Nat.lt_of_le_of_lt (Nat.div_le_self _ _) ha
  go_enter Try.func5, Try.ntmps5
  go_wp2_with fail
  refine (known2 _).mono ?_; rintro e w1 ⟨rfl, hb1⟩
  go_wp2_with fail
  have hst := lenLeft_start A
  obtain ⟨L, hL⟩ : ∃ L, L = (putVar A).length := ⟨_, rfl⟩
  have hL10 : L ≤ 10 := by rw [hL]; exact putVar_len A hA1
  rw [← hL] at hst
  have HL := Lib.hid hL
  have ST := Lib.hid hst
  clear hL hst
  go_loop [7, 8] (fun n v => ∃ m x : Nat, n = .int .i64 m ∧ v = .int .u64 x ∧ L = m + lenLeft x) (fun _ v => (intOf v).toNat)
  case atStart => exact ⟨1, A / 128, rfl, by go_num, ST.out⟩
  case round =>
    obtain ⟨m, x, rfl, rfl, hm⟩ := hrel
    have hml : m ≤ L := by omega
    by_cases hx : 0 < x
    · have hs := lenLeft_step x hx
      have HM := Lib.hid hm
      have HS := Lib.hid hs
      clear hm hs
      go_wp2_with fail
      go_round
      case rel => exact ⟨m + 1, x / 128, by go_num, by go_num, by have := HM.out; have := HS.out; omega⟩
      case measure => simp [intOf]; omega
    · have hme : m = L := by
        have : lenLeft x = 0 := by unfold lenLeft; rw [if_pos (by omega)]
        omega
      have HM := Lib.hid hme
      clear hm hme
      go_wp2_with fail
      refine ownRet_mono (put_any _ _ _ [] rd_nil (by omega) A hA1) _ ?_
      intro p w2 ho2 hb2
      rw [← HL.out, Nat.zero_add] at ho2
      obtain ⟨pa, pc, rfl, q1, q2, _⟩ := owns_shape ho2
      clear ho2
      go_wp2_with fail
      refine ownRet_mono (put_any _ _ _ [] rd_nil (by omega) b hb) _ ?_
      intro p' w3 ho3 hb3
      rw [Nat.zero_add] at ho3
      obtain ⟨L', hL'⟩ : ∃ L', L' = (putVar b).length := ⟨_, rfl⟩
      have hL10' : L' ≤ 10 := by rw [hL']; exact putVar_len b hb
      rw [← hL'] at ho3
      obtain ⟨pa', pc', rfl, q3, q4, _⟩ := owns_shape ho3
      clear ho3
      have hmono1 : A ≤ b → L ≤ L' := fun h => by rw [HL.out, hL']; exact putVar_mono _ _ h
      have hmono2 : b ≤ A → L' ≤ L := fun h => by rw [HL.out, hL']; exact putVar_mono _ _ h
      clear hL'
      have hend : Below w.heap.size w w3 := hb1.trans ((hb2.mono hb1.size).trans (hb3.mono (Nat.le_trans hb1.size hb2.size)))
      have hq1 : ((L : Int) == (m : Int)) = true := by rw [HM.out]; simp
      clear hb1 hb2 hb3
      unfold maxLen at q2 q4
      by_cases h1 : A ≤ b
      · have hle := hmono1 h1
        clear hmono1 hmono2
        by_cases h2 : L < L'
        · go_wp2_with fail
          go_ret
          exact ⟨rfl, hend⟩
        · have hq2 : ((L : Int) == (L' : Int)) = true := by rw [beq_iff_eq]; omega
          go_wp2_with fail
          go_ret
          exact ⟨rfl, hend⟩
      · have hle := hmono2 (by omega)
        clear hmono1 hmono2
        obtain ⟨q, hq2⟩ : ∃ q, ((L : Int) == (L' : Int)) = q := ⟨_, rfl⟩
        cases q
        all_goals
          have hq3 : ¬ L < L' := by omega
          go_wp2_with fail
          go_ret
          exact ⟨ret_bool (by simp; try omega), hend⟩

theorem varSigned_walk (v : Int) (h : -9223372036854775808 ≤ v ∧ v ≤ 9223372036854775807) (w : World) : Calls Try.prog 6 #[.int .i64 v] w fun e w' => e = .returned (.bool true) ∧ Below w.heap.size w w' := by
  by_cases hv : v < 0
  · exact varSigned_core _ v h.1 h.2 (.inl ⟨hv, rfl⟩) w
  · exact varSigned_core _ v h.1 h.2 (.inr ⟨by omega, rfl⟩) w
theorem varFew_walk' (a b cut : Int) (ha : 0 ≤ a ∧ a ≤ 18446744073709551615) (hb : 0 ≤ b ∧ b ≤ 18446744073709551615) (hc : 0 ≤ cut ∧ cut ≤ 255) (w : World) : Calls Try.prog 5 #[.int .u64 a, .int .u64 b, .int .u8 cut] w fun e w' => e = .returned (.bool true) ∧ Below w.heap.size w w' := by
  obtain ⟨a', rfl⟩ := Int.eq_ofNat_of_zero_le ha.1
  obtain ⟨b', rfl⟩ := Int.eq_ofNat_of_zero_le hb.1
  exact varFew_walk a' b' cut (by omega) (by omega) hc.1 hc.2 w
end Go.Proofs.Ytdnhlbpopohokaa
