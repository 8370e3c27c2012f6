/- Contracts of the reference's Check. -/
import Derived.Test.YtlnldkciiphidaaVerify2
import Derived.Deep.CutBlock
namespace Go.Proofs.Ytlnldkciiphidaa
open Go.RowKit Go.Waf
set_option maxRecDepth 100000
set_option linter.unusedVariables false

set_option maxHeartbeats 3200000 in
theorem rcheck_any (w : World) (a : Option Addr) (n cap : Nat) (V N : Nat → Int) (hp : PairsAt w .i64 .i32 a n cap V N) :
    Calls Try.prog 8 #[.slice a n cap] w fun e w' => e = .returned (.int .i64 (if firstBad V N n < n then (firstBad V N n : Int) else if n = 0 then 0 else -1)) ∧ Below w.heap.size w w' := by
  obtain ⟨K, hK⟩ : ∃ K, K = firstBad V N n := ⟨_, rfl⟩
  have hKn : K ≤ n := by rw [hK]; exact firstBad_le V N n
  rw [← hK]
  have hle := hp.le
  have hcap := hp.cap63
  have HP := Lib.hid hp
  have HK := Lib.hid hK
  clear hp hK
  go_enter Try.func8, Try.ntmps8
  go_wp2_with fail
  go_loopw [3] (fun i wr => ∃ k : Nat, k ≤ K ∧ i = .int .i64 (k : Int) ∧ Below w.heap.size w wr) (fun i _ => n - (intOf i).toNat)
  case atStart => exact ⟨0, by omega, rfl, Below.refl _ _⟩
  case round =>
    obtain ⟨k, hk, rfl, hb⟩ := hrel
    by_cases hlt : k < n
    · have hpw := HP.out.below hb (Nat.le_refl _)
      obtain ⟨ab, ao, rfl, habl, hcs⟩ := hpw.cells (by omega)
      obtain ⟨kv, kn⟩ := hcs k hlt
      obtain ⟨hv0, hv1⟩ := rng_i64 (hpw.wf k hlt).1
      obtain ⟨hn0, hn1⟩ := rng_i32 (hpw.wf k hlt).2
      obtain ⟨v, hv⟩ : ∃ v, v = V k := ⟨_, rfl⟩
      obtain ⟨c, hc⟩ : ∃ c, c = N k := ⟨_, rfl⟩
      rw [← hv] at kv hv0 hv1
      rw [← hc] at kn hn0 hn1
      have hbad : badAt V N n k = (wrongC v c n || (decide (k + 1 = n) && !endsC v)) := by rw [badAt, ← hv, ← hc]
      obtain ⟨x, hx⟩ : ∃ x, wrongC v c n = x := ⟨_, rfl⟩
      obtain ⟨y, hy⟩ : ∃ y, endsC v = y := ⟨_, rfl⟩
      have he := fun W => rends_any v W
      rw [hy] at he
      rw [hx, hy] at hbad
      have HE := Lib.hid he
      obtain ⟨r, hr⟩ : ∃ r, rightC v c = r := ⟨_, rfl⟩
      have hg := fun W => good_any v c W
      rw [hr] at hg
      have HG := Lib.hid hg
      have HR := Lib.hid hr
      clear hg hr
      have HX := Lib.hid hx
      have HBAD := Lib.hid hbad
      have HB := Lib.hid hb
      have hK1 : badAt V N n k = true → k = K := fun h => by
        rcases Nat.lt_or_ge k K with h1 | h1
        · have := firstBad_before V N n k (by rw [← HK.out]; exact h1)
          rw [h] at this; cases this
        · omega
      have hK2 : badAt V N n k = false → k + 1 ≤ K := fun h => by
        rcases Nat.lt_or_ge k K with h1 | h1
        · omega
        · have e : K = k := by omega
          have := firstBad_at V N n (by rw [← HK.out]; omega)
          rw [← HK.out, e, h] at this; cases this
      have HK1 := Lib.hid hK1
      have HK2 := Lib.hid hK2
      clear hpw hcs hv hc hbad hb hx hy he hK1 hK2
      go_wp2_with fail
      refine (HG.out _).mono ?_; rintro e w2 ⟨rfl, b2⟩
      have d0 : w2.cell? ⟨wr.heap.size, 0, none⟩ = some (.int .i64 v) := cell_below b2 (Nat.le_refl _) (by rw [World.cell?_alloc_new]; rfl)
      have HB2 := Lib.hid (HB.out.trans ((((Below.refl wr.heap.size wr).alloc (Nat.le_refl _) (.cells #[.int .i64 v, .int .i32 c] 36)).trans (b2.mono (by simp))).mono HB.out.size))
      clear b2
      go_upto_block 2 with fail
      go_cut [6] (fun b wx => b = .bool x ∧ wx = w2)
      case first =>
        have hx : x = (!r || leadsC v c n || kWrong v c) := by rw [← HX.out, wrongC, HR.out]
        have HX2 := Lib.hid hx
        clear hx
        cases r with
        | false =>
          have hx1 : x = true := by rw [HX2.out]; rfl
          subst hx1
          by_cases h : v = 25 ∨ v = 26 ∨ v = 27 ∨ v = 28 ∨ v = 8 ∨ v = 30
          · rcases h with rfl | rfl | rfl | rfl | rfl | rfl
            all_goals
              go_wp2_with fail
              go_meet
              case rel => exact ⟨rfl, rfl⟩
          · have e1 : (v == 25) = false := by simp; omega
            have e2 : (v == 26) = false := by simp; omega
            have e3 : (v == 27) = false := by simp; omega
            have e4 : (v == 28) = false := by simp; omega
            have e5 : (v == 8) = false := by simp; omega
            have e6 : (v == 30) = false := by simp; omega
            clear h
            go_wp2_with fail
            go_meet
            case rel => exact ⟨rfl, rfl⟩
        | true =>
          have hx1 : x = (leadsC v c n || kWrong v c) := by rw [HX2.out]; simp
          have hnw : IntKind.i64.wrap ((n : Int) - 1) = (n : Int) - 1 := by rw [IntWalk.i64_in _ (by omega)]
          by_cases h : v = 25 ∨ v = 26 ∨ v = 27
          · have HIN := Lib.hid (fun W => rin_any c 0 ((n : Int) - 1) W)
            obtain ⟨b, hb⟩ : ∃ b, (decide ((0 : Int) ≤ c) && decide (c ≤ ((n : Int) - 1))) = b := ⟨_, rfl⟩
            have hin := HIN.out
            rw [hb] at hin
            have HIN2 := Lib.hid hin
            have hxb : x = !b := by
              rw [hx1, ← hb]
              rcases h with rfl | rfl | rfl <;> (rw [Bool.eq_iff_iff]; simp [leadsC, kWrong] <;> omega)
            have HXB := Lib.hid hxb
            clear hin HIN hb hxb hx1
            cases b
            all_goals
              rcases h with rfl | rfl | rfl
              all_goals
                go_wp2_with fail
                refine (HIN2.out _).mono ?_; rintro e w3 ⟨rfl, rfl⟩
                go_wp2_with fail
                go_meet
                case rel => exact ⟨by rw [HXB.out]; rfl, rfl⟩
          have e1 : (v == 25) = false := by simp; omega
          have e2 : (v == 26) = false := by simp; omega
          have e3 : (v == 27) = false := by simp; omega
          clear h
          by_cases h : v = 28 ∨ v = 8
          · clear e1 e2 e3
            have HIN := Lib.hid (fun W => rin_any c 0 1048576 W)
            obtain ⟨b, hb⟩ : ∃ b, (decide ((0 : Int) ≤ c) && decide (c ≤ 1048576)) = b := ⟨_, rfl⟩
            have hin := HIN.out
            rw [hb] at hin
            have HIN2 := Lib.hid hin
            have hxb : x = !b := by
              rw [hx1, ← hb]
              rcases h with rfl | rfl <;> (rw [Bool.eq_iff_iff]; simp [leadsC, kWrong] <;> omega)
            have HXB := Lib.hid hxb
            clear hin HIN hb hxb hx1
            cases b
            all_goals
              rcases h with rfl | rfl
              all_goals
                go_wp2_with fail
                refine (HIN2.out _).mono ?_; rintro e w3 ⟨rfl, rfl⟩
                go_wp2_with fail
                go_meet
                case rel => exact ⟨by rw [HXB.out]; rfl, rfl⟩
          have e4 : (v == 28) = false := by simp; omega
          have e5 : (v == 8) = false := by simp; omega
          clear h
          by_cases h : v = 30
          · subst h
            clear e1 e2 e3 e4 e5
            have h : True ∨ False := .inl trivial
            have HIN := Lib.hid (fun W => rin_any c 1 15 W)
            obtain ⟨b, hb⟩ : ∃ b, (decide ((1 : Int) ≤ c) && decide (c ≤ 15)) = b := ⟨_, rfl⟩
            have hin := HIN.out
            rw [hb] at hin
            have HIN2 := Lib.hid hin
            have hxb : x = !b := by
              rw [hx1, ← hb, Bool.eq_iff_iff]; simp [leadsC, kWrong] <;> omega
            have HXB := Lib.hid hxb
            clear hin HIN hb hxb hx1 h
            cases b
            all_goals
              go_wp2_with fail
              refine (HIN2.out _).mono ?_; rintro e w3 ⟨rfl, rfl⟩
              go_wp2_with fail
              go_meet
              case rel => exact ⟨by rw [HXB.out]; rfl, rfl⟩
          · have e6 : (v == 30) = false := by simp; omega
            have hxb : x = false := by rw [hx1]; simp [leadsC, kWrong, e1, e2, e3, e4, e5, e6]
            subst hxb
            clear h hx1
            go_wp2_with fail
            go_meet
            case rel => exact ⟨rfl, rfl⟩
      case rest =>
        obtain ⟨rfl, hwc⟩ := hcut
        rw [hwc]
        clear hwc
        cases x with
        | true =>
          have hk1 := HK1.out (by rw [HBAD.out]; rfl)
          subst hk1
          by_cases hlast : k + 1 = n
          · have q : ((k : Int) == (n : Int) - 1) = true := by simp; omega
            clear hlast
            cases y
            all_goals
              go_wp2_with fail
              refine (HE.out _).mono ?_; rintro e w3 ⟨rfl, rfl⟩
              go_wp2_with fail
              go_ret
              exact ⟨by simp, HB2.out⟩
          · have q : ((k : Int) == (n : Int) - 1) = false := by simp; omega
            clear hlast
            go_wp2_with fail
            go_ret
            exact ⟨by simp, HB2.out⟩
        | false =>
          by_cases hlast : k + 1 = n
          · have q : ((k : Int) == (n : Int) - 1) = true := by simp; omega
            cases y with
            | true =>
              have hk2 := HK2.out (by rw [HBAD.out, hlast]; simp)
              clear hlast
              go_wp2_with fail
              refine (HE.out _).mono ?_; rintro e w3 ⟨rfl, rfl⟩
              go_wp2_with fail
              go_roundw
              case rel => exact ⟨k + 1, by omega, by go_num, HB2.out⟩
              case measure => simp [intOf]; omega
            | false =>
              have hk1 := HK1.out (by rw [HBAD.out, hlast]; simp)
              subst hk1
              clear hlast
              go_wp2_with fail
              refine (HE.out _).mono ?_; rintro e w3 ⟨rfl, rfl⟩
              go_wp2_with fail
              go_ret
              exact ⟨by simp, HB2.out⟩
          · have q : ((k : Int) == (n : Int) - 1) = false := by simp; omega
            have hk2 := HK2.out (by rw [HBAD.out, decide_eq_false hlast]; simp)
            clear hlast
            go_wp2_with fail
            go_roundw
            case rel => exact ⟨k + 1, by omega, by go_num, HB2.out⟩
            case measure => simp [intOf]; omega
    · obtain rfl : k = n := by omega
      obtain rfl : K = k := by omega
      have HB := Lib.hid hb
      clear hb
      by_cases h0 : K = 0
      · subst h0
        go_wp2_with fail
        go_ret
        exact ⟨by simp, HB.out⟩
      · have q : ((K : Int) == 0) = false := by simp; omega
        go_wp2_with fail
        go_ret
        exact ⟨by simp, HB.out⟩
end Go.Proofs.Ytlnldkciiphidaa
