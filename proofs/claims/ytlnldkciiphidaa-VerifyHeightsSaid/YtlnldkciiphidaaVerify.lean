/- Contracts of package verify and of its reference: instructions that may be. -/
import Derived.Test.YtlnldkciiphidaaChecked
import Derived.Test.YtlnldkciiphidaaLib
import Derived.Test.YtlnldkciiphidaaMem3
import Derived.Test.YtlnldkciiphidaaPairs
import Derived.Deep.DeepCutAuto
import Derived.ChangeAlike
namespace Go.Proofs.Ytlnldkciiphidaa
open Go.RowKit Go.Waf
set_option maxRecDepth 100000
set_option linter.unusedVariables false

def hasOp (op : Int) : Bool := op == 1 || op == 5 || op == 8 || op == 25 || op == 26 || op == 27 || op == 28 || op == 30
def rightC (op k : Int) : Bool := decide (0 ≤ op) && decide (op < 34) && (hasOp op || k == 0)
def leadsC (op k n : Int) : Bool := (op == 25 || op == 26 || op == 27) && (decide (k < 0) || decide (n ≤ k))
def endsC (op : Int) : Bool := op == 0 || op == 25 || op == 29 || op == 30
theorem cell_below {w w' : World} {B : Nat} {p : Addr} {u : Value} (hb : Below B w w') (hB : w.heap.size ≤ B) (hc : w.cell? p = some u) : w'.cell? p = some u := by
  rw [hb.cell (p := p) (Nat.lt_of_lt_of_le (World.block_lt_of_cell? w _ hc) hB)]; exact hc
theorem ret_bool {a b : Bool} (h : a = b) : Ending.returned (.bool a) = .returned (.bool b) := by rw [h]

set_option maxHeartbeats 800000 in
theorem has_any (op : Int) (w : World) : Calls Try.prog 25 #[.int .i64 op] w fun e w' => e = .returned (.bool (hasOp op)) ∧ w = w' := by
  by_cases h : op = 1 ∨ op = 5 ∨ op = 8 ∨ op = 25 ∨ op = 26 ∨ op = 27 ∨ op = 28 ∨ op = 30
  · rcases h with rfl | rfl | rfl | rfl | rfl | rfl | rfl | rfl
    all_goals
      go_enter Try.func25, Try.ntmps25
      go_wp2_with fail
      go_ret
      exact ⟨rfl, rfl⟩
  · have e : ∀ n : Int, (n = 1 ∨ n = 5 ∨ n = 8 ∨ n = 25 ∨ n = 26 ∨ n = 27 ∨ n = 28 ∨ n = 30) → (op == n) = false := fun n hn => by
      refine beq_eq_false_iff_ne.2 fun e => h (by rw [e]; exact hn)
    have e1 := e 1 (by omega); have e2 := e 5 (by omega); have e3 := e 8 (by omega); have e4 := e 25 (by omega)
    have e5 := e 26 (by omega); have e6 := e 27 (by omega); have e7 := e 28 (by omega); have e8 := e 30 (by omega)
    have hf : hasOp op = false := by simp [hasOp, e1, e2, e3, e4, e5, e6, e7, e8]
    rw [hf]
    clear e h hf
    go_enter Try.func25, Try.ntmps25
    go_wp2_with fail
    go_ret
    exact ⟨rfl, rfl⟩
set_option maxHeartbeats 800000 in
theorem rhas_any (op : Int) (w : World) : Calls Try.prog 13 #[.int .i64 op] w fun e w' => e = .returned (.bool (hasOp op)) ∧ w = w' := by
  by_cases h : op = 1 ∨ op = 5 ∨ op = 8 ∨ op = 25 ∨ op = 26 ∨ op = 27 ∨ op = 28 ∨ op = 30
  · rcases h with rfl | rfl | rfl | rfl | rfl | rfl | rfl | rfl
    all_goals
      go_enter Try.func13, Try.ntmps13
      go_wp2_with fail
      go_ret
      exact ⟨rfl, rfl⟩
  · have e : ∀ n : Int, (n = 1 ∨ n = 5 ∨ n = 8 ∨ n = 25 ∨ n = 26 ∨ n = 27 ∨ n = 28 ∨ n = 30) → (op == n) = false := fun n hn => by
      refine beq_eq_false_iff_ne.2 fun e => h (by rw [e]; exact hn)
    have e1 := e 1 (by omega); have e2 := e 5 (by omega); have e3 := e 8 (by omega); have e4 := e 25 (by omega)
    have e5 := e 26 (by omega); have e6 := e 27 (by omega); have e7 := e 28 (by omega); have e8 := e 30 (by omega)
    have hf : hasOp op = false := by simp [hasOp, e1, e2, e3, e4, e5, e6, e7, e8]
    rw [hf]
    clear e h hf
    go_enter Try.func13, Try.ntmps13
    go_wp2_with fail
    go_ret
    exact ⟨rfl, rfl⟩
theorem ends_any (op : Int) (w : World) : Calls Try.prog 15 #[.int .i64 op] w fun e w' => e = .returned (.bool (endsC op)) ∧ w = w' := by
  obtain ⟨a, ha⟩ : ∃ a, (op == 0) = a := ⟨_, rfl⟩
  obtain ⟨b, hb⟩ : ∃ b, (op == 25) = b := ⟨_, rfl⟩
  obtain ⟨c, hc⟩ : ∃ c, (op == 29) = c := ⟨_, rfl⟩
  have he : endsC op = (a || b || c || op == 30) := by rw [← ha, ← hb, ← hc]; rfl
  rw [he]
  clear he
  cases a <;> cases b <;> cases c
  all_goals
    go_enter Try.func15, Try.ntmps15
    go_wp2_with fail
    go_ret
    exact ⟨by simp, rfl⟩
theorem rends_any (op : Int) (w : World) : Calls Try.prog 18 #[.int .i64 op] w fun e w' => e = .returned (.bool (endsC op)) ∧ w = w' := by
  obtain ⟨a, ha⟩ : ∃ a, (op == 0) = a := ⟨_, rfl⟩
  obtain ⟨b, hb⟩ : ∃ b, (op == 25) = b := ⟨_, rfl⟩
  obtain ⟨c, hc⟩ : ∃ c, (op == 29) = c := ⟨_, rfl⟩
  have he : endsC op = (a || b || c || op == 30) := by rw [← ha, ← hb, ← hc]; rfl
  rw [he]
  clear he
  cases a <;> cases b <;> cases c
  all_goals
    go_enter Try.func18, Try.ntmps18
    go_wp2_with fail
    go_ret
    exact ⟨by simp, rfl⟩
theorem rin_any (n a b : Int) (w : World) : Calls Try.prog 17 #[.int .i64 n, .int .i64 a, .int .i64 b] w fun e w' => e = .returned (.bool (decide (a ≤ n) && decide (n ≤ b))) ∧ w = w' := by
  by_cases h : a ≤ n
  · by_cases h2 : n ≤ b
    all_goals
      go_enter Try.func17, Try.ntmps17
      go_wp2_with fail
      go_ret
      exact ⟨ret_bool (by simp [h, h2]), rfl⟩
  · have h2 : n < a := by omega
    go_enter Try.func17, Try.ntmps17
    go_wp2_with fail
    go_ret
    exact ⟨ret_bool (by simp; omega), rfl⟩
set_option maxHeartbeats 800000 in
theorem right_any (op k : Int) (w : World) : Calls Try.prog 22 #[.agg #[.int .i64 op, .int .i32 k]] w fun e w' => e = .returned (.bool (rightC op k)) ∧ Below w.heap.size w w' := by
  by_cases h : 0 ≤ op ∧ op < 34
  · obtain ⟨h0, h1⟩ := h
    have hr : rightC op k = (hasOp op || k == 0) := by simp [rightC, h0, h1]
    rw [hr]
    obtain ⟨b, hb⟩ : ∃ b, hasOp op = b := ⟨_, rfl⟩
    have HA := fun W => has_any op W
    rw [hb] at HA ⊢
    have HH := Lib.hid HA
    clear HA hb hr
    cases b
    all_goals
      go_enter Try.func22, Try.ntmps22
      go_wp2_with fail
      refine (HH.out _).mono ?_; rintro e w1 ⟨rfl, rfl⟩
      go_wp2_with fail
      go_ret
      exact ⟨by simp, (Below.refl _ _).alloc (Nat.le_refl _) _⟩
  · have hr : rightC op k = false := by
      rw [rightC]
      by_cases h0 : 0 ≤ op
      · rw [decide_eq_false (show ¬ op < 34 by omega)]; simp
      · rw [decide_eq_false h0]; simp
    rw [hr]
    rcases (by omega : op < 0 ∨ (0 ≤ op ∧ 34 ≤ op)) with h0 | ⟨h0, h1⟩
    all_goals
      clear h hr
      go_enter Try.func22, Try.ntmps22
      go_wp2_with fail
      go_ret
      exact ⟨rfl, (Below.refl _ _).alloc (Nat.le_refl _) _⟩
set_option maxHeartbeats 800000 in
theorem good_any (op k : Int) (w : World) : Calls Try.prog 16 #[.agg #[.int .i64 op, .int .i32 k]] w fun e w' => e = .returned (.bool (rightC op k)) ∧ Below w.heap.size w w' := by
  have HI := Lib.hid (fun W => rin_any op 0 33 W)
  by_cases h : 0 ≤ op ∧ op < 34
  · obtain ⟨h0, h1⟩ := h
    have hr : rightC op k = (hasOp op || k == 0) := by simp [rightC, h0, h1]
    rw [hr]
    have hi : (decide ((0 : Int) ≤ op) && decide (op ≤ 33)) = true := by simp; omega
    obtain ⟨b, hb⟩ : ∃ b, hasOp op = b := ⟨_, rfl⟩
    have HA := fun W => rhas_any op W
    rw [hb] at HA ⊢
    have HH := Lib.hid HA
    have hin := HI.out
    rw [hi] at hin
    have HIN := Lib.hid hin
    clear HA hb hr hi hin HI
    cases b
    all_goals
      go_enter Try.func16, Try.ntmps16
      go_wp2_with fail
      refine (HIN.out _).mono ?_; rintro e w1 ⟨rfl, rfl⟩
      go_wp2_with fail
      refine (HH.out _).mono ?_; rintro e w1 ⟨rfl, rfl⟩
      go_wp2_with fail
      go_ret
      exact ⟨by simp, (Below.refl _ _).alloc (Nat.le_refl _) _⟩
  · have hr : rightC op k = false := by
      rw [rightC]
      by_cases h0 : 0 ≤ op
      · rw [decide_eq_false (show ¬ op < 34 by omega)]; simp
      · rw [decide_eq_false h0]; simp
    have hi : (decide ((0 : Int) ≤ op) && decide (op ≤ 33)) = false := by
      by_cases h0 : 0 ≤ op
      · rw [decide_eq_false (show ¬ op ≤ 33 by omega)]; simp
      · rw [decide_eq_false h0]; simp
    rw [hr]
    have hin := HI.out
    rw [hi] at hin
    have HIN := Lib.hid hin
    clear h hr hi hin HI
    go_enter Try.func16, Try.ntmps16
    go_wp2_with fail
    refine (HIN.out _).mono ?_; rintro e w1 ⟨rfl, rfl⟩
    go_wp2_with fail
    go_ret
    exact ⟨rfl, (Below.refl _ _).alloc (Nat.le_refl _) _⟩
set_option maxHeartbeats 800000 in
theorem leads_any (op k n : Int) (hk0 : -2147483648 ≤ k) (hk1 : k ≤ 2147483647) (w : World) : Calls Try.prog 23 #[.agg #[.int .i64 op, .int .i32 k], .int .i64 n] w fun e w' => e = .returned (.bool (leadsC op k n)) ∧ Below w.heap.size w w' := by
  by_cases h : op = 25 ∨ op = 26 ∨ op = 27
  · have hl : leadsC op k n = (decide (k < 0) || decide (n ≤ k)) := by
      rcases h with rfl | rfl | rfl <;> simp [leadsC]
    rw [hl]
    clear hl
    by_cases hk : k < 0
    · rcases h with rfl | rfl | rfl
      all_goals
        go_enter Try.func23, Try.ntmps23
        go_wp2_with fail
        go_ret
        exact ⟨ret_bool (by simp; omega), (Below.refl _ _).alloc (Nat.le_refl _) _⟩
    · rcases h with rfl | rfl | rfl
      all_goals
        go_enter Try.func23, Try.ntmps23
        go_wp2_with fail
        go_ret
        exact ⟨ret_bool (by simp; omega), (Below.refl _ _).alloc (Nat.le_refl _) _⟩
  · have e1 : (op == 25) = false := by simp; omega
    have e2 : (op == 26) = false := by simp; omega
    have e3 : (op == 27) = false := by simp; omega
    have hl : leadsC op k n = false := by simp [leadsC, e1, e2, e3]
    rw [hl]
    clear hl h
    go_enter Try.func23, Try.ntmps23
    go_wp2_with fail
    go_ret
    exact ⟨rfl, (Below.refl _ _).alloc (Nat.le_refl _) _⟩
def kWrong (op k : Int) : Bool := if op == 28 || op == 8 then decide (k < 0) || decide (1048576 < k) else if op == 30 then decide (k < 1) || decide (15 < k) else false
def wrongC (op k n : Int) : Bool := !rightC op k || leadsC op k n || kWrong op k
set_option maxHeartbeats 1600000 in
theorem wrong_any (op k n : Int) (hk0 : -2147483648 ≤ k) (hk1 : k ≤ 2147483647) (w : World) : Calls Try.prog 14 #[.agg #[.int .i64 op, .int .i32 k], .int .i64 n] w fun e w' => e = .returned (.bool (wrongC op k n)) ∧ Below w.heap.size w w' := by
  have HR := Lib.hid (fun W => right_any op k W)
  have HL := Lib.hid (fun W => leads_any op k n hk0 hk1 W)
  obtain ⟨r, hr⟩ : ∃ r, rightC op k = r := ⟨_, rfl⟩
  obtain ⟨l, hl⟩ : ∃ l, leadsC op k n = l := ⟨_, rfl⟩
  have hw : wrongC op k n = (!r || l || kWrong op k) := by rw [wrongC, hr, hl]
  rw [hw]
  have hr2 := HR.out
  have hl2 := HL.out
  rw [hr] at hr2
  rw [hl] at hl2
  have HR2 := Lib.hid hr2
  have HL2 := Lib.hid hl2
  clear HR HL hr hl hr2 hl2 hw
  cases r with
  | false =>
    go_enter Try.func14, Try.ntmps14
    go_wp2_with fail
    refine (HR2.out _).mono ?_; rintro e w1 ⟨rfl, b1⟩
    go_wp2_with fail
    go_ret
    exact ⟨by simp, ((Below.refl _ _).alloc (Nat.le_refl _) _).trans (b1.mono (by simp))⟩
  | true =>
    go_enter Try.func14, Try.ntmps14
    go_wp2_with fail
    refine (HR2.out _).mono ?_; rintro e w1 ⟨rfl, b1⟩
    have d0 : w1.cell? ⟨w.heap.size, 0, none⟩ = some (.int .i64 op) := cell_below b1 (Nat.le_refl _) (by rw [World.cell?_alloc_new]; rfl)
    have d1 : w1.cell? ⟨w.heap.size, 1, none⟩ = some (.int .i32 k) := cell_below b1 (Nat.le_refl _) (by rw [World.cell?_alloc_new]; rfl)
    have HB1 := Lib.hid (((Below.refl w.heap.size w).alloc (Nat.le_refl _) (.cells #[.int .i64 op, .int .i32 k] 36)).trans (b1.mono (by simp)))
    clear b1
    go_wp2_with fail
    refine (HL2.out _).mono ?_; rintro e w2 ⟨rfl, b2⟩
    have f0 := cell_below b2 (Nat.le_refl _) d0
    have f1 := cell_below b2 (Nat.le_refl _) d1
    have HB2 := Lib.hid (HB1.out.trans (b2.mono HB1.out.size))
    clear b2 d0 d1 HB1
    cases l with
    | true =>
      go_wp2_with fail
      go_ret
      exact ⟨by simp, HB2.out⟩
    | false =>
      by_cases h : op = 28 ∨ op = 8
      · have hk : kWrong op k = (decide (k < 0) || decide (1048576 < k)) := by rcases h with rfl | rfl <;> rfl
        have HK := Lib.hid hk
        clear hk
        by_cases hk : k < 0
        · rcases h with rfl | rfl
          all_goals
            go_wp2_with fail
            go_ret
            exact ⟨ret_bool (by rw [HK.out]; simp <;> omega), HB2.out⟩
        · rcases h with rfl | rfl
          all_goals
            go_wp2_with fail
            go_ret
            exact ⟨ret_bool (by rw [HK.out]; simp <;> omega), HB2.out⟩
      · have e1 : (op == 28) = false := by simp; omega
        have e2 : (op == 8) = false := by simp; omega
        clear h
        by_cases h : op = 30
        · subst h
          have hk : kWrong 30 k = (decide (k < 1) || decide (15 < k)) := rfl
          have HK := Lib.hid hk
          clear hk
          by_cases hk : k < 1
          all_goals
            go_wp2_with fail
            go_ret
            exact ⟨ret_bool (by rw [HK.out]; simp <;> omega), HB2.out⟩
        · have e3 : (op == 30) = false := by simp; omega
          have hk : kWrong op k = false := by simp [kWrong, e1, e2, e3]
          have HK := Lib.hid hk
          clear hk h
          go_wp2_with fail
          go_ret
          exact ⟨ret_bool (by rw [HK.out]; rfl), HB2.out⟩
end Go.Proofs.Ytlnldkciiphidaa
