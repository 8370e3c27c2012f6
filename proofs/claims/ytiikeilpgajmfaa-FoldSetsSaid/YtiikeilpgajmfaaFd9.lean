/- Fold: the reference's: is it a constant, lists of them, may it be folded. (Printed by gen_fd9.py.) -/
import Derived.Test.YtiikeilpgajmfaaFd8
namespace Go.Proofs.Ytiikeilpgajmfaa
open Go.RowKit Go.Waf
set_option maxRecDepth 100000
set_option linter.unusedVariables false
set_option linter.unusedSimpArgs false

set_option maxHeartbeats 3200000 in
theorem is_ref (w : World) (e : Ex) (tv xv : Value) : Calls Try.prog 18 #[exV e tv xv] w fun en w' => en = .returned (.bool (isC e)) ∧ Below w.heap.size w w' := by
  unfold isC exV
  obtain ⟨o, ho⟩ : ∃ o, o = e.op := ⟨_, rfl⟩
  obtain ⟨f, hf⟩ : ∃ f, f = e.t.form := ⟨_, rfl⟩
  rw [← ho, ← hf]
  have HR := Lib.hid (show isCb o f = decide (o = 0 ∧ 1 ≤ f ∧ f ≤ 4) from rfl)
  clear ho hf
  by_cases h0 : o = 0
  · subst h0
    by_cases h1 : 1 ≤ f
    · by_cases h4 : f ≤ 4
      · have e1 : isCb 0 f = true := by rw [HR.out]; simp [h1, h4]
        rw [e1]
        clear e1
        go_enter Try.func18, Try.ntmps18
        go_wp2_with fail
        go_ret
        exact ⟨rfl, (Below.refl _ _).alloc (Nat.le_refl _) _⟩
      · have e1 : isCb 0 f = false := by rw [HR.out]; simp [h1, h4]
        rw [e1]
        clear e1
        go_enter Try.func18, Try.ntmps18
        go_wp2_with fail
        go_ret
        exact ⟨rfl, (Below.refl _ _).alloc (Nat.le_refl _) _⟩
    · have e1 : isCb 0 f = false := by rw [HR.out]; simp [h1]
      rw [e1]
      clear e1
      go_enter Try.func18, Try.ntmps18
      go_wp2_with fail
      go_ret
      exact ⟨rfl, (Below.refl _ _).alloc (Nat.le_refl _) _⟩
  · have e1 : isCb o f = false := by rw [HR.out]; simp [h0]
    rw [e1]
    clear e1
    go_enter Try.func18, Try.ntmps18
    go_wp2_with fail
    go_ret
    exact ⟨rfl, (Below.refl _ _).alloc (Nat.le_refl _) _⟩

theorem allC_false {k : Nat} {x : Nat → Ex} {j : Nat} (hj : j < k) (h : isC (x j) = false) : allC k x = false := by
  unfold allC; rw [anyB_true hj (by rw [h]; rfl)]; rfl
theorem allC_true {k : Nat} {x : Nat → Ex} (h : ∀ j, j < k → isC (x j) = true) : allC k x = true := by
  unfold allC; rw [anyB_false (fun j hj => by rw [h j hj]; rfl)]; rfl
set_option maxHeartbeats 6400000 in
theorem known_ref (w : World) (n : Int) (a : Option Addr) (k cap : Nat) (x : Nat → Ex) (h : ExsAt w a k x) (h1 : k ≤ cap) (h2 : cap ≤ 9223372036854775807) :
    Calls Try.prog 49 #[.slice a k cap, .int .i64 n] w fun en w' => en = .returned (.bool (allC k x && (decide ((k : Int) = n) && decide (0 < n)))) ∧ Below w.heap.size w w' := by
  have H := Lib.hid h
  clear h
  obtain ⟨R, hR⟩ : ∃ R, R = (allC k x && (decide ((k : Int) = n) && decide (0 < n))) := ⟨_, rfl⟩
  rw [← hR]
  have HR := Lib.hid hR
  clear hR
  go_enter Try.func49, Try.ntmps49
  go_wp2_with fail
  go_loopw [5] (fun z wr => ∃ j : Nat, j ≤ k ∧ z = .int .i64 (j : Int) ∧ (∀ i, i < j → isC (x i) = true) ∧ Below w.heap.size w wr) (fun z _ => k - (intOf z).toNat)
  case atStart => exact ⟨0, by omega, rfl, fun i hi => absurd hi (by omega), Below.refl _ _⟩
  case round =>
    obtain ⟨j, hj, rfl, hno, hb⟩ := hrel
    obtain ⟨wo, rfl⟩ : ∃ wo : World, wo = wr := ⟨_, rfl⟩
    by_cases hlt : j < k
    · obtain ⟨b, o, rfl, hc⟩ := H.out (by omega)
      obtain ⟨tu, xu, hok, hcc⟩ := hc j hlt
      obtain ⟨c0, c1, c2, c3, c4, c5, c6, c7⟩ := hcc.below hb (Nat.le_refl _)
      have HC := Lib.hid (is_ref wo (x j) tu xu)
      have HNO := Lib.hid hno
      have HB := Lib.hid hb
      obtain ⟨t, ht⟩ : ∃ t, t = isC (x j) := ⟨_, rfl⟩
      obtain ⟨E, hE⟩ : ∃ E, E = x j := ⟨_, rfl⟩
      rw [← ht] at HC
      have HT := Lib.hid ht
      rw [← hE] at HC c0 c1 c2 c3 c5 c6
      unfold exV at HC
      clear hc hok hcc hno hb hE ht
      cases t
      · have HT2 := Lib.hid (show R = false from by rw [HR.out, allC_false hlt HT.out.symm]; rfl)
        go_wp2_with fail
        refine HC.out.mono ?_
        rintro en w2 ⟨rfl, hb2⟩
        have HB2 := Lib.hid (HB.out.trans (hb2.mono HB.out.size))
        clear hb2
        go_wp2_with fail
        go_ret
        exact ⟨by rw [HT2.out]; rfl, HB2.out⟩
      · go_wp2_with fail
        refine HC.out.mono ?_
        rintro en w2 ⟨rfl, hb2⟩
        have HB2 := Lib.hid (HB.out.trans (hb2.mono HB.out.size))
        clear hb2
        go_wp2_with fail
        go_roundw
        case rel => exact ⟨j + 1, by omega, by go_num, fun i hi => by
          rcases Nat.lt_succ_iff_lt_or_eq.1 hi with h | h
          · exact HNO.out i h
          · rw [h]; exact HT.out.symm, HB2.out⟩
        case measure => simp [intOf]; omega
    · obtain rfl : j = k := by omega
      have HB := Lib.hid hb
      have HR2 := Lib.hid (show R = (decide ((j : Int) = n) && decide (0 < n)) from by rw [HR.out, allC_true hno]; rfl)
      clear hno hb HR
      by_cases e1 : (j : Int) = n
      · by_cases e2 : 0 < n
        · have e3 : (0 : Int) < (j : Int) := by omega
          subst e1
          go_wp2_with fail
          go_ret
          exact ⟨by rw [HR2.out]; simp [e2], HB.out⟩
        · subst e1
          have e3 : ¬ (0 : Int) < (j : Int) := by omega
          go_wp2_with fail
          go_ret
          exact ⟨by rw [HR2.out]; simp [e2], HB.out⟩
      · go_wp2_with fail
        go_ret
        exact ⟨by rw [HR2.out]; simp [e1], HB.out⟩
def ari (op : Int) : Int := if op = 7 ∨ op = 8 ∨ op = 27 ∨ op = 28 ∨ op = 32 ∨ op = 33 ∨ op = 25 then 1 else if (9 ≤ op ∧ op ≤ 22) ∨ (29 ≤ op ∧ op ≤ 31) ∨ op = 26 then 2 else 0
set_option maxHeartbeats 6400000 in
theorem arity_any (w : World) (op : Int) : Calls Try.prog 50 #[.int .i64 op] w fun en w' => en = .returned (.int .i64 (ari op)) ∧ w = w' := by
  by_cases h : op = 7 ∨ op = 8 ∨ op = 9 ∨ op = 10 ∨ op = 11 ∨ op = 12 ∨ op = 13 ∨ op = 14 ∨ op = 15 ∨ op = 16 ∨ op = 17 ∨ op = 18 ∨ op = 19 ∨ op = 20 ∨ op = 21 ∨ op = 22 ∨ op = 25 ∨ op = 26 ∨ op = 27 ∨ op = 28 ∨ op = 29 ∨ op = 30 ∨ op = 31 ∨ op = 32 ∨ op = 33
  · rcases h with rfl | rfl | rfl | rfl | rfl | rfl | rfl | rfl | rfl | rfl | rfl | rfl | rfl | rfl | rfl | rfl | rfl | rfl | rfl | rfl | rfl | rfl | rfl | rfl | rfl
    all_goals
      simp only [ari]
      go_enter Try.func50, Try.ntmps50
      go_wp2_with fail
      go_ret
      exact ⟨rfl, rfl⟩
  · have e : ari op = 0 := by unfold ari; rw [if_neg (by omega), if_neg (by omega)]
    rw [e]
    clear e
    have e7 : ¬ op = 7 := by omega
    have e8 : ¬ op = 8 := by omega
    have e9 : ¬ op = 9 := by omega
    have e10 : ¬ op = 10 := by omega
    have e11 : ¬ op = 11 := by omega
    have e12 : ¬ op = 12 := by omega
    have e13 : ¬ op = 13 := by omega
    have e14 : ¬ op = 14 := by omega
    have e15 : ¬ op = 15 := by omega
    have e16 : ¬ op = 16 := by omega
    have e17 : ¬ op = 17 := by omega
    have e18 : ¬ op = 18 := by omega
    have e19 : ¬ op = 19 := by omega
    have e20 : ¬ op = 20 := by omega
    have e21 : ¬ op = 21 := by omega
    have e22 : ¬ op = 22 := by omega
    have e25 : ¬ op = 25 := by omega
    have e26 : ¬ op = 26 := by omega
    have e27 : ¬ op = 27 := by omega
    have e28 : ¬ op = 28 := by omega
    have e29 : ¬ op = 29 := by omega
    have e30 : ¬ op = 30 := by omega
    have e31 : ¬ op = 31 := by omega
    have e32 : ¬ op = 32 := by omega
    have e33 : ¬ op = 33 := by omega
    by_cases h9 : 9 ≤ op
    · have h22 : ¬ op ≤ 22 := by omega
      clear h
      go_enter Try.func50, Try.ntmps50
      go_wp2_with fail
      go_ret
      exact ⟨rfl, rfl⟩
    · clear h
      go_enter Try.func50, Try.ntmps50
      go_wp2_with fail
      go_ret
      exact ⟨rfl, rfl⟩
end Go.Proofs.Ytiikeilpgajmfaa
