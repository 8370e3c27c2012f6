/- Contracts of carry, sum, product. -/
import Derived.Test.YtflinbfobadheaaRisc6
namespace Go.Proofs.Ytflinbfobadheaa
open Go.RowKit Go.Waf
set_option maxRecDepth 100000
set_option linter.unusedVariables false

theorem top_and (x y : Int) (hx : W32 x) (hy : W32 y) : W32 (bits .and .u32 x y) ∧ decide (2147483648 ≤ bits .and .u32 x y) = (decide (2147483648 ≤ x) && decide (2147483648 ≤ y)) := by
  obtain ⟨hx0, hx1⟩ := hx
  obtain ⟨hy0, hy1⟩ := hy
  obtain ⟨n, rfl⟩ := Int.eq_ofNat_of_zero_le hx0
  obtain ⟨m, rfl⟩ := Int.eq_ofNat_of_zero_le hy0
  rw [and_u32_nat n m (by omega) (by omega)]
  have hl : n &&& m < 2 ^ 32 := Nat.and_lt_two_pow n (by omega)
  have t := fun k : Nat => (fun hk => by rw [Nat.testBit_eq_decide_div_mod_eq, decide_eq_decide]; omega : k < 4294967296 → k.testBit 31 = decide (2147483648 ≤ k))
  have e := Nat.testBit_and n m 31
  rw [t n (by omega), t m (by omega), t _ (by omega)] at e
  refine ⟨⟨by omega, by omega⟩, ?_⟩
  have c := fun k : Nat => (by rw [decide_eq_decide]; omega : decide ((2147483648 : Int) ≤ (k : Int)) = decide (2147483648 ≤ k))
  rw [c, c, c, e]
theorem top_or (x y : Int) (hx : W32 x) (hy : W32 y) : W32 (bits .or .u32 x y) ∧ decide (2147483648 ≤ bits .or .u32 x y) = (decide (2147483648 ≤ x) || decide (2147483648 ≤ y)) := by
  obtain ⟨hx0, hx1⟩ := hx
  obtain ⟨hy0, hy1⟩ := hy
  obtain ⟨n, rfl⟩ := Int.eq_ofNat_of_zero_le hx0
  obtain ⟨m, rfl⟩ := Int.eq_ofNat_of_zero_le hy0
  rw [or_u32_nat n m (by omega) (by omega)]
  have hl : n ||| m < 2 ^ 32 := Nat.or_lt_two_pow (by omega) (by omega)
  have t := fun k : Nat => (fun hk => by rw [Nat.testBit_eq_decide_div_mod_eq, decide_eq_decide]; omega : k < 4294967296 → k.testBit 31 = decide (2147483648 ≤ k))
  have e := Nat.testBit_or n m 31
  rw [t n (by omega), t m (by omega), t _ (by omega)] at e
  refine ⟨⟨by omega, by omega⟩, ?_⟩
  have c := fun k : Nat => (by rw [decide_eq_decide]; omega : decide ((2147483648 : Int) ≤ (k : Int)) = decide (2147483648 ≤ k))
  rw [c, c, c, e]
theorem xor_u32_nat (x m : Nat) (hx : x < 4294967296) (hm : m < 4294967296) : bits .xor .u32 (x : Int) (m : Int) = ((x ^^^ m : Nat) : Int) := by
  show IntKind.u32.wrap ((BitVec.ofInt 32 (x : Int) ^^^ BitVec.ofInt 32 (m : Int)).toNat : Int) = _
  rw [BitVec.ofInt_natCast, BitVec.ofInt_natCast, BitVec.toNat_xor, BitVec.toNat_ofNat, BitVec.toNat_ofNat, Nat.mod_eq_of_lt hx, Nat.mod_eq_of_lt hm, u32_mod]
  have h : x ^^^ m < 2 ^ 32 := Nat.xor_lt_two_pow hx hm
  omega
theorem top_xor (x y : Int) (hx : W32 x) (hy : W32 y) : W32 (bits .xor .u32 x y) ∧ decide (2147483648 ≤ bits .xor .u32 x y) = (decide (2147483648 ≤ x) ^^ decide (2147483648 ≤ y)) := by
  obtain ⟨hx0, hx1⟩ := hx
  obtain ⟨hy0, hy1⟩ := hy
  obtain ⟨n, rfl⟩ := Int.eq_ofNat_of_zero_le hx0
  obtain ⟨m, rfl⟩ := Int.eq_ofNat_of_zero_le hy0
  rw [xor_u32_nat n m (by omega) (by omega)]
  have hl : n ^^^ m < 2 ^ 32 := Nat.xor_lt_two_pow (by omega) (by omega)
  have t := fun k : Nat => (fun hk => by rw [Nat.testBit_eq_decide_div_mod_eq, decide_eq_decide]; omega : k < 4294967296 → k.testBit 31 = decide (2147483648 ≤ k))
  have e := Nat.testBit_xor n m 31
  rw [t n (by omega), t m (by omega), t _ (by omega)] at e
  refine ⟨⟨by omega, by omega⟩, ?_⟩
  have c := fun k : Nat => (by rw [decide_eq_decide]; omega : decide ((2147483648 : Int) ≤ (k : Int)) = decide (2147483648 ≤ k))
  rw [c, c, c, e]

theorem half (x : Int) (hx : W32 x) : x / 2147483648 = num (decide (2147483648 ≤ x)) := by
  unfold W32 at hx
  by_cases h : 2147483648 ≤ x
  · simp [num, h]; omega
  · simp [num, h]; omega
theorem borrow (b n k : Int) (hb : W32 b) (hn : W32 n) (hk : 0 ≤ k ∧ k ≤ 1) :
    bits .or .u32 (bits .and .u32 (bits .xor .u32 IntKind.u32.max b) n) (bits .and .u32 (bits .xor .u32 IntKind.u32.max (bits .xor .u32 b n)) ((b - n - k) % 4294967296)) / 2147483648 = num (decide (b < n + k)) := by
  have hm : IntKind.u32.max = 4294967295 := rfl
  rw [hm]
  have wm : W32 4294967295 := by unfold W32; omega
  have wd : W32 ((b - n - k) % 4294967296) := by unfold W32; omega
  obtain ⟨w1, t1⟩ := top_xor 4294967295 b wm hb
  obtain ⟨w2, t2⟩ := top_and _ n w1 hn
  obtain ⟨w3, t3⟩ := top_xor b n hb hn
  obtain ⟨w4, t4⟩ := top_xor 4294967295 _ wm w3
  obtain ⟨w5, t5⟩ := top_and _ _ w4 wd
  obtain ⟨w6, t6⟩ := top_or _ _ w2 w5
  rw [half _ w6, t6, t2, t1, t5, t4, t3]
  unfold W32 at hb hn
  congr 1
  by_cases xb : 2147483648 ≤ b <;> by_cases xn : 2147483648 ≤ n <;> by_cases xd : 2147483648 ≤ (b - n - k) % 4294967296 <;> by_cases xr : b < n + k <;> simp [xb, xn, xd, xr] <;> omega
theorem ret2uu {a b c d : Int} (h : a = b) (g : c = d) : Ending.returned (.tuple #[.int .u32 a, .int .u32 c]) = .returned (.tuple #[.int .u32 b, .int .u32 d]) := by rw [h, g]
theorem add32_any (b n k : Int) (hb : W32 b) (hn : W32 n) (hk : 0 ≤ k ∧ k ≤ 1) (w : World) : Calls Try.prog 70 #[.int .u32 b, .int .u32 n, .int .u32 k] w fun e w' => e = .returned (.tuple #[.int .u32 (cut32 (b + n + k)), .int .u32 ((b + n + k) / 4294967296)]) ∧ w = w' := by
  obtain ⟨hb0, hb1⟩ := hb
  obtain ⟨hn0, hn1⟩ := hn
  obtain ⟨hk0, hk1⟩ := hk
  go_enter Try.func70, Try.ntmps70
  go_wp2_with fail
  go_ret2
  exact ⟨rfl, rfl⟩
theorem sub32_any (b n k : Int) (hb : W32 b) (hn : W32 n) (hk : 0 ≤ k ∧ k ≤ 1) (w : World) : Calls Try.prog 71 #[.int .u32 b, .int .u32 n, .int .u32 k] w fun e w' => e = .returned (.tuple #[.int .u32 (cut32 (b - n - k)), .int .u32 (num (decide (b < n + k)))]) ∧ w = w' := by
  have HBO := Lib.hid (borrow b n k hb hn hk)
  obtain ⟨hb0, hb1⟩ := hb
  obtain ⟨hn0, hn1⟩ := hn
  obtain ⟨hk0, hk1⟩ := hk
  go_enter Try.func71, Try.ntmps71
  go_wp2_with fail
  go_ret2
  exact ⟨ret2uu rfl HBO.out, rfl⟩

section
variable {w : World} {B q : Nat} {F : Nat → Prop} {cv mv iv ov : Value} {s : St}
theorem carry_any (h : Mach true w B q F cv mv iv ov s) (i : Ins) : Calls Try.prog 69 #[.pointer (some ⟨q, 0, none⟩), insV i] w fun e w' => e = .returned (.int .u32 (s.carry i)) ∧ Below w.heap.size w w' := by
  obtain ⟨f, u, v, a, b, c, op, imm⟩ := i
  have hql : q < w.heap.size := (h.fb q h.fq).2
  have c1 := h.p_c
  obtain ⟨C, hC⟩ : ∃ C, C = s.c := ⟨_, rfl⟩
  have e : s.carry ⟨f, u, v, a, b, c, op, imm⟩ = if u && C then 1 else 0 := by rw [hC]; rfl
  rw [← hC] at c1
  rw [e]
  clear h e hC
  simp only [insV]
  cases u <;> cases C
  all_goals
    go_enter Try.func69, Try.ntmps69
    go_wp2_with fail
    go_ret
    exact ⟨rfl, (Below.refl _ _).alloc (Nat.le_refl _) _⟩
end
end Go.Proofs.Ytflinbfobadheaa
