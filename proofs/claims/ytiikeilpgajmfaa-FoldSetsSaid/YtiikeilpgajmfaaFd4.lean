/- Fold: one operand, two operands. -/
import Derived.Test.YtiikeilpgajmfaaFd3
namespace Go.Proofs.Ytiikeilpgajmfaa
open Go.RowKit Go.Waf
set_option maxRecDepth 100000
set_option linter.unusedVariables false
set_option linter.unusedSimpArgs false

def cnt (op : Int) : Int := if op = 7 ∨ op = 8 ∨ op = 27 ∨ op = 28 ∨ op = 32 ∨ op = 33 then 1 else if (9 ≤ op ∧ op ≤ 22) ∨ (29 ≤ op ∧ op ≤ 31) then 2 else 0
set_option maxHeartbeats 3200000 in
theorem count_none (w : World) (op : Int) (h : ¬ ((7 ≤ op ∧ op ≤ 22) ∨ (27 ≤ op ∧ op ≤ 33))) : Calls Try.prog 22 #[.int .i64 op] w fun en w' => en = .returned (.tuple #[.int .i64 0, .bool false]) ∧ w = w' := by
  have e1 : ¬ op = 7 := by omega
  have e2 : ¬ op = 8 := by omega
  have e3 : ¬ op = 27 := by omega
  have e4 : ¬ op = 28 := by omega
  have e5 : ¬ op = 32 := by omega
  have e6 : ¬ op = 33 := by omega
  have f1 : ¬ op = 9 := by omega
  have f2 : ¬ op = 10 := by omega
  have f3 : ¬ op = 11 := by omega
  have f4 : ¬ op = 12 := by omega
  have f5 : ¬ op = 13 := by omega
  have f6 : ¬ op = 14 := by omega
  have f7 : ¬ op = 15 := by omega
  have f8 : ¬ op = 16 := by omega
  have f9 : ¬ op = 17 := by omega
  have f10 : ¬ op = 18 := by omega
  have f11 : ¬ op = 19 := by omega
  have f12 : ¬ op = 20 := by omega
  have f13 : ¬ op = 21 := by omega
  have f14 : ¬ op = 22 := by omega
  have f15 : ¬ op = 29 := by omega
  have f16 : ¬ op = 30 := by omega
  have f17 : ¬ op = 31 := by omega
  go_enter Try.func22, Try.ntmps22
  go_wp2_with fail
  go_ret2
  exact ⟨rfl, rfl⟩
set_option maxHeartbeats 3200000 in
theorem count_some (w : World) (op : Int) (h : (7 ≤ op ∧ op ≤ 22) ∨ (27 ≤ op ∧ op ≤ 33)) : Calls Try.prog 22 #[.int .i64 op] w fun en w' => en = .returned (.tuple #[.int .i64 (cnt op), .bool true]) ∧ w = w' := by
  rcases (by omega : op = 7 ∨ op = 8 ∨ op = 9 ∨ op = 10 ∨ op = 11 ∨ op = 12 ∨ op = 13 ∨ op = 14 ∨ op = 15 ∨ op = 16 ∨ op = 17 ∨ op = 18 ∨ op = 19 ∨ op = 20 ∨ op = 21 ∨ op = 22 ∨ op = 27 ∨ op = 28 ∨ op = 29 ∨ op = 30 ∨ op = 31 ∨ op = 32 ∨ op = 33) with rfl | rfl | rfl | rfl | rfl | rfl | rfl | rfl | rfl | rfl | rfl | rfl | rfl | rfl | rfl | rfl | rfl | rfl | rfl | rfl | rfl | rfl | rfl
  all_goals
    clear h
    go_enter Try.func22, Try.ntmps22
    go_wp2_with fail
    go_ret2
    exact ⟨rfl, rfl⟩
def tI (b : Bool) : Int := if b = true then 1 else 0
set_option maxHeartbeats 3200000 in
theorem truth_any (w : World) (b : Bool) : Calls Try.prog 37 #[.bool b] w fun en w' => en = .returned (.int .i32 (tI b)) ∧ w = w' := by
  cases b
  all_goals
    go_enter Try.func37, Try.ntmps37
    go_wp2_with fail
    go_ret
    exact ⟨rfl, rfl⟩
set_option maxHeartbeats 3200000 in
theorem flag_any (w : World) (b : Bool) : Calls Try.prog 63 #[.bool b] w fun en w' => en = .returned (.int .i32 (tI b)) ∧ w = w' := by
  cases b
  all_goals
    go_enter Try.func63, Try.ntmps63
    go_wp2_with fail
    go_ret
    exact ⟨rfl, rfl⟩
def unI (op f a : Int) : Int :=
  if op = 7 then (if f = 4 then bits .xor .i32 (-1) a else wrap32 (-a)) else if op = 8 then tI (a == 0) else if op = 27 then (if a < 0 then wrap32 (-a) else a) else if op = 28 then bits .and .i32 a 1 else a
def unB (op a : Int) : Bool := if op = 33 then decide (0 ≤ a ∧ a ≤ 255) else true
def isUn (op : Int) : Prop := op = 7 ∨ op = 8 ∨ op = 27 ∨ op = 28 ∨ op = 32 ∨ op = 33
set_option maxHeartbeats 6400000 in
theorem unary_ref (w : World) (op f a : Int) (ha : -2147483648 ≤ a ∧ a ≤ 2147483647) (ho : isUn op) : Calls Try.prog 53 #[.int .i64 op, .int .i64 f, .int .i32 a] w fun en w' => en = .returned (.tuple #[.int .i32 (unI op f a), .bool (unB op a)]) ∧ w = w' := by
  obtain ⟨V, hV⟩ : ∃ V, V = unI op f a := ⟨_, rfl⟩
  obtain ⟨T, hT⟩ : ∃ T, T = unB op a := ⟨_, rfl⟩
  rw [← hV, ← hT]
  unfold isUn at ho
  by_cases h4 : f = 4
  all_goals rcases (by omega : (a < 0 ∧ ¬ 0 ≤ a ∧ a ≤ 255) ∨ (¬ a < 0 ∧ 0 ≤ a ∧ a ≤ 255) ∨ (¬ a < 0 ∧ 0 ≤ a ∧ ¬ a ≤ 255)) with ⟨h0, h0', h1⟩ | ⟨h0, h0', h1⟩ | ⟨h0, h0', h1⟩
  all_goals rcases ho with rfl | rfl | rfl | rfl | rfl | rfl
  all_goals
    simp [unI, h4, h0] at hV
    simp [unB, h0, h0', h1] at hT
    try subst h4
    have HV := Lib.hid hV
    have HT := Lib.hid hT
    clear hV hT
    go_enter Try.func53, Try.ntmps53
    go_wp2_with (first | (go_at_call 63; refine (flag_any _ _).mono ?_; rintro en w2 ⟨rfl, rfl⟩))
    all_goals (try go_ret2)
    all_goals exact ⟨by rw [HV.out, HT.out]; first | rfl | exact (show Ending.returned (.tuple #[.int .i32 (-a), .bool true]) = .returned (.tuple #[.int .i32 (wrap32 (-a)), .bool true]) from ret2_int (by unfold wrap32; omega)), rfl⟩
set_option maxHeartbeats 12800000 in
theorem one_raw (w : World) (op o f n a : Int) (nm s : ByteArray) (tv xv : Value) (ha : -2147483648 ≤ a ∧ a ≤ 2147483647) (ho : isUn op) : Calls Try.prog 26 #[.int .i64 op, .agg #[.int .i64 o, .int .i64 f, .int .i64 n, .string nm, tv, .int .i32 a, .string s, xv]] w fun en w' => en = .returned (.tuple #[.int .i32 (unI op f a), .bool (unB op a)]) ∧ Below w.heap.size w w' := by
  have hD : Below w.heap.size w (w.alloc (.cells #[.int .i64 o, .int .i64 f, .int .i64 n, .string nm, tv, .int .i32 a, .string s, xv] 27)) := (Below.refl _ _).alloc (Nat.le_refl _) _
  obtain ⟨V, hV⟩ : ∃ V, V = unI op f a := ⟨_, rfl⟩
  obtain ⟨T, hT⟩ : ∃ T, T = unB op a := ⟨_, rfl⟩
  rw [← hV, ← hT]
  unfold isUn at ho
  by_cases h4 : f = 4
  all_goals rcases (by omega : (a < 0 ∧ ¬ 0 ≤ a ∧ a ≤ 255) ∨ (¬ a < 0 ∧ 0 ≤ a ∧ a ≤ 255) ∨ (¬ a < 0 ∧ 0 ≤ a ∧ ¬ a ≤ 255)) with ⟨h0, h0', h1⟩ | ⟨h0, h0', h1⟩ | ⟨h0, h0', h1⟩
  all_goals rcases ho with rfl | rfl | rfl | rfl | rfl | rfl
  all_goals
    simp [unI, h4, h0] at hV
    simp [unB, h0, h0', h1] at hT
    try subst h4
    have HV := Lib.hid hV
    have HT := Lib.hid hT
    have HD := Lib.hid hD
    clear hV hT hD
    go_enter Try.func26, Try.ntmps26
    go_wp2_with (first | (go_at_call 37; refine (truth_any _ _).mono ?_; rintro en w2 ⟨rfl, rfl⟩) | (go_at_call 36; refine (sub_any _ _ _).mono ?_; rintro en w2 ⟨rfl, rfl⟩))
    all_goals (try go_ret2)
    all_goals exact ⟨by rw [HV.out, HT.out]; first | rfl | (simp only [Int.zero_sub]; rfl) | rfl | exact (show Ending.returned (.tuple #[.int .i32 (-a), .bool true]) = .returned (.tuple #[.int .i32 (wrap32 (-a)), .bool true]) from ret2_int (by unfold wrap32; omega)), HD.out⟩
theorem one_prog (w : World) (op : Int) (e : Ex) (tv xv : Value) (ha : -2147483648 ≤ e.i ∧ e.i ≤ 2147483647) (ho : isUn op) : Calls Try.prog 26 #[.int .i64 op, exV e tv xv] w fun en w' => en = .returned (.tuple #[.int .i32 (unI op e.t.form e.i), .bool (unB op e.i)]) ∧ Below w.heap.size w w' :=
  one_raw w op _ _ _ _ _ _ tv xv ha ho
end Go.Proofs.Ytiikeilpgajmfaa
