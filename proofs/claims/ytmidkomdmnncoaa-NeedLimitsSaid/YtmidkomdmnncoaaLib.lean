/- Plain lemmas on machine integers, with no program in sight. -/
import Derived.WalkKit
import Derived.Lib.Hide
namespace Go.Waf
open Go.RowKit

theorem u64_mod (n : Int) : IntKind.u64.wrap n = n % 18446744073709551616 := by simp [IntKind.wrap, IntKind.bits, IntKind.signed]
theorem u32_mod (n : Int) : IntKind.u32.wrap n = n % 4294967296 := by simp [IntKind.wrap, IntKind.bits, IntKind.signed]
theorem u8_mod (n : Int) : IntKind.u8.wrap n = n % 256 := by simp [IntKind.wrap, IntKind.bits, IntKind.signed]

/-- A mask of the lowest j bits, whatever number it is laid over. -/
theorem mask (k : IntKind) (j : Nat) (hj : j ≤ k.bits) (hs : k.signed = false ∨ j < k.bits) (x : Int) : bits .and k x (2 ^ j - 1) = x % 2 ^ j := by
  have hpj := Nat.two_pow_pos j
  have hpj' : (0 : Int) < 2 ^ j := by exact_mod_cast hpj
  have hp : (2:Int) ^ j ≤ 2 ^ k.bits := by exact_mod_cast Nat.pow_le_pow_right (n := 2) (by decide) hj
  have hpn : 2 ^ j ≤ 2 ^ k.bits := Nat.pow_le_pow_right (by decide) hj
  have h1 : BitVec.ofInt k.bits (2 ^ j - 1) = BitVec.ofNat k.bits (2 ^ j - 1) := by
    have : ((2:Int) ^ j - 1) = ((2 ^ j - 1 : Nat) : Int) := by
      rw [Int.natCast_sub hpj]; simp
    rw [this, BitVec.ofInt_natCast]
  have hk : (2 : Nat) ^ j ∣ 2 ^ k.bits := Nat.pow_dvd_pow 2 hj
  have hk' : (2 : Int) ^ j ∣ 2 ^ k.bits := by exact_mod_cast hk
  have h0 : 0 ≤ x % (2:Int) ^ j := Int.emod_nonneg _ (by omega)
  have h3 : x % (2:Int) ^ j < 2 ^ j := Int.emod_lt_of_pos _ hpj'
  have h2 : (((BitVec.ofInt k.bits x &&& BitVec.ofInt k.bits (2 ^ j - 1)).toNat : Nat) : Int) = x % 2 ^ j := by
    rw [h1, BitVec.toNat_and, BitVec.toNat_ofNat, Nat.mod_eq_of_lt (by omega), Nat.and_two_pow_sub_one_eq_mod, BitVec.toNat_ofInt]
    have hq : 0 ≤ x % ((2 ^ k.bits : Nat) : Int) := Int.emod_nonneg _ (by have := Nat.two_pow_pos k.bits; omega)
    rw [Int.natCast_emod, Int.toNat_of_nonneg hq]
    push_cast
    exact Int.emod_emod_of_dvd x hk'
  simp only [bits]
  rw [h2]
  simp only [IntKind.wrap]
  rw [Int.emod_eq_of_lt h0 (by omega)]
  rcases hs with hs | hs
  · simp [hs]
  · have : (2:Int) ^ j ≤ 2 ^ (k.bits - 1) := by exact_mod_cast Nat.pow_le_pow_right (n := 2) (by decide) (show j ≤ k.bits - 1 by omega)
    rw [if_neg]
    simp; omega
theorem mask31_u64 (x : Int) : bits .and .u64 x 31 = x % 32 := mask .u64 5 (by decide) (by decide) x
theorem mask31_u32 (x : Int) : bits .and .u32 x 31 = x % 32 := mask .u32 5 (by decide) (by decide) x
theorem mask31_i32 (x : Int) : bits .and .i32 x 31 = x % 32 := mask .i32 5 (by decide) (by decide) x
theorem mask63_i32 (x : Int) : bits .and .i32 x 63 = x % 64 := mask .i32 6 (by decide) (by decide) x
theorem mask1_i32 (x : Int) : bits .and .i32 x 1 = x % 2 := mask .i32 1 (by decide) (by decide) x
theorem mask1_u64 (x : Int) : bits .and .u64 x 1 = x % 2 := mask .u64 1 (by decide) (by decide) x
theorem mask1_u8 (x : Int) : bits .and .u8 x 1 = x % 2 := mask .u8 1 (by decide) (by decide) x
theorem mask63_u8 (x : Int) : bits .and .u8 x 63 = x % 64 := mask .u8 6 (by decide) (by decide) x
theorem mask127_u8 (x : Int) : bits .and .u8 x 127 = x % 128 := mask .u8 7 (by decide) (by decide) x
theorem wrap_u64_mod (n : Int) : IntKind.u64.wrap n % 32 = n % 32 := by rw [u64_mod]; omega
theorem wrap_u32_mod (n : Int) : IntKind.u32.wrap n % 32 = n % 32 := by rw [u32_mod]; omega
theorem wrap_u64_mod32 (n : Int) : (IntKind.u64.wrap n).tmod 32 = n % 32 := by
  rw [u64_mod, Int.tmod_eq_emod_of_nonneg (by omega)]
  omega

/-! ### Numbers of so many bits, as bit vectors -/
theorem or_u32 (x y : Int) : bits .or .u32 x y = ((BitVec.ofInt 32 x ||| BitVec.ofInt 32 y).toNat : Int) := by
  show IntKind.u32.wrap ((BitVec.ofInt 32 x ||| BitVec.ofInt 32 y).toNat : Int) = _
  rw [u32_mod]
  exact Int.emod_eq_of_lt (by omega) (by have := (BitVec.ofInt 32 x ||| BitVec.ofInt 32 y).isLt; omega)
theorem wrap32_ofInt (n : Int) : wrap32 n = (BitVec.ofInt 32 n).toInt := by
  rw [BitVec.toInt_ofInt]; unfold wrap32 Int.bmod; simp only [show ((2 ^ 32 : Nat) : Int) = 4294967296 from rfl]; split <;> omega
theorem ofInt_toNat (x : BitVec 32) : BitVec.ofInt 32 (x.toNat : Int) = x := by simp
theorem mod_mul_eq (a b : Int) : a % 4294967296 * b % 4294967296 = a * b % 4294967296 := by
  rw [Int.mul_emod, Int.emod_emod_of_dvd a (Int.dvd_refl _), ← Int.mul_emod]
theorem ofInt_shl (a : Int) (k : Nat) : BitVec.ofInt 32 (a * 2 ^ k % 4294967296) = BitVec.ofInt 32 a <<< k := by
  apply BitVec.eq_of_toNat_eq
  rw [BitVec.toNat_shiftLeft, BitVec.toNat_ofInt, BitVec.toNat_ofInt, Nat.shiftLeft_eq]
  apply Int.ofNat.inj
  show ((_ : Nat) : Int) = ((_ : Nat) : Int)
  have e32 : ((2 ^ 32 : Nat) : Int) = 4294967296 := rfl
  rw [Int.natCast_emod, Int.natCast_mul, e32, Int.toNat_of_nonneg (Int.emod_nonneg _ (by decide)), Int.toNat_of_nonneg (Int.emod_nonneg _ (by decide)), Int.natCast_pow]
  rw [Int.emod_emod_of_dvd _ (by decide)]
  show a * (2:Int) ^ k % 4294967296 = a % 4294967296 * (2:Int) ^ k % 4294967296
  exact (mod_mul_eq a _).symm
theorem ofInt_shr (a : Int) (h0 : 0 ≤ a) (h : a < 4294967296) (k : Nat) : BitVec.ofInt 32 (a / 2 ^ k) = BitVec.ofInt 32 a >>> k := by
  obtain ⟨n, rfl⟩ := Int.eq_ofNat_of_zero_le h0
  apply BitVec.eq_of_toNat_eq
  have hp := Nat.two_pow_pos k
  have hd : n / 2 ^ k ≤ n := Nat.div_le_self _ _
  have hc : ((n : Int) / 2 ^ k) = ((n / 2 ^ k : Nat) : Int) := by push_cast; rfl
  rw [BitVec.toNat_ushiftRight, Nat.shiftRight_eq_div_pow, hc, BitVec.ofInt_natCast, BitVec.ofInt_natCast, BitVec.toNat_ofNat, BitVec.toNat_ofNat, Nat.mod_eq_of_lt (by omega), Nat.mod_eq_of_lt (by omega)]
theorem ofInt_mod (a : Int) : BitVec.ofInt 32 (a % 4294967296) = BitVec.ofInt 32 a := by
  apply BitVec.eq_of_toNat_eq
  rw [BitVec.toNat_ofInt, BitVec.toNat_ofInt]
  congr 1
  exact Int.emod_emod_of_dvd a (by decide)
theorem toInt_ofInt_i32 (a : Int) (h0 : -2147483648 ≤ a) (h : a < 2147483648) : (BitVec.ofInt 32 a).toInt = a := by
  rw [← wrap32_ofInt]; unfold wrap32; omega

/-- The bits of a number of 32, moved round to the right. -/
def ror (a n : Int) : Int := ((BitVec.ofInt 32 a).rotateRight (n % 32).toNat).toInt

theorem rotr (x : BitVec 32) (k : Nat) (hk : k < 32) : x.rotateRight k = x >>> k ||| x <<< (32 - k) := by
  rw [BitVec.rotateRight_def, Nat.mod_eq_of_lt hk]
theorem rotl (x : BitVec 32) (k : Nat) (hk : k < 32) : x <<< ((32 - k) % 32) ||| x >>> (32 - (32 - k) % 32) = x.rotateRight k := by
  rw [rotr x k hk]
  by_cases h : k = 0
  · subst h; simp; exact BitVec.ushiftRight_eq_zero (Nat.le_refl 32) ▸ BitVec.or_zero
  · rw [Nat.mod_eq_of_lt (by omega), show 32 - (32 - k) = k by omega, BitVec.or_comm]
theorem rot_back (x : BitVec 32) (k : Nat) (hk : k < 32) : (x.rotateRight k).rotateRight ((32 - k) % 32) = x := by
  have h := fun i => BitVec.getLsbD_rotateRight (x := x) (r := k) (i := i)
  apply BitVec.eq_of_getLsbD_eq
  intro i hi
  rw [BitVec.getLsbD_rotateRight, Nat.mod_eq_of_lt (Nat.mod_lt _ (by decide))]
  by_cases hk0 : k = 0
  · subst hk0; simp [hi, h]
  · rw [Nat.mod_eq_of_lt (show 32 - k < 32 by omega), h, h, Nat.mod_eq_of_lt hk]
    have e1 : 32 - (32 - k) = k := by omega
    rw [e1]
    by_cases hik : i < k
    · rw [show decide (i < k) = true from by simp [hik], show decide (32 - k + i < 32 - k) = false from by simp]
      simp only [cond_true, cond_false]
      rw [show decide (32 - k + i < 32) = true from by simp; omega, Bool.true_and]
      congr 1; omega
    · rw [show decide (i < k) = false from by simp; omega, show decide (i - k < 32 - k) = true from by simp; omega]
      simp only [cond_true, cond_false]
      rw [show decide (i < 32) = true from by simp [hi], Bool.true_and]
      congr 1; omega
end Go.Waf
namespace Go.Waf
open Go.RowKit
theorem div_bounds (a b : Int) (hb : 1 ≤ b) (h0 : -2147483648 ≤ a) (h1 : a ≤ 2147483647) : -2147483648 ≤ a / b ∧ a / b ≤ 2147483647 :=
  ⟨Int.le_ediv_of_mul_le (by omega) (by omega), Int.ediv_le_of_le_mul (by omega) (by omega)⟩
/-- Go's quotient, mended where the remainder is below nought, is the quotient rounded down. -/
theorem tdiv_floor (a b : Int) (hb : 1 ≤ b) (h0 : -2147483648 ≤ a) (h1 : a ≤ 2147483647) :
    (a.tmod b < 0 → wrap32 (wrap32 (a.tdiv b) - 1) = a / b) ∧ (0 ≤ a.tmod b → wrap32 (a.tdiv b) = a / b) := by
  have hp : 0 ≤ a % b := Int.emod_nonneg _ (by omega)
  have hl : a % b < b := Int.emod_lt_of_pos _ (by omega)
  have hq := div_bounds a b hb h0 h1
  have hd := @Int.tdiv_eq_ediv a b
  have hm := @Int.tmod_eq_emod a b
  have hs : b.sign = 1 := Int.sign_eq_one_of_pos (by omega)
  by_cases hc : 0 ≤ a ∨ b ∣ a
  · rw [if_pos hc] at hd hm
    refine ⟨fun h => by omega, fun _ => ?_⟩
    rw [hd, IntWalk.wrap32_in _ (by omega)]; omega
  · rw [if_neg hc] at hd hm
    refine ⟨fun _ => ?_, fun h => by omega⟩
    rw [hd, hs]
    have hneg : a < 0 := by omega
    have : a / b < 0 := Int.ediv_neg_of_neg_of_pos hneg (by omega)
    rw [IntWalk.wrap32_in (a / b + 1) (by omega), IntWalk.wrap32_in _ (by omega)]; omega
theorem tmod_floor (a b : Int) (hb : 1 ≤ b) (hb' : b ≤ 2147483647) :
    (a.tmod b < 0 → wrap32 (a.tmod b + b) = a % b) ∧ (0 ≤ a.tmod b → a.tmod b = a % b) := by
  have hp : 0 ≤ a % b := Int.emod_nonneg _ (by omega)
  have hl : a % b < b := Int.emod_lt_of_pos _ (by omega)
  have hm := @Int.tmod_eq_emod a b
  by_cases hc : 0 ≤ a ∨ b ∣ a
  · rw [if_pos hc] at hm
    exact ⟨fun h => by omega, fun _ => by omega⟩
  · rw [if_neg hc] at hm
    refine ⟨fun _ => ?_, fun h => by omega⟩
    rw [hm, IntWalk.wrap32_in _ (by omega)]; omega

theorem wrap32_wrap64 (n : Int) : wrap32 (wrap64 n) = wrap32 n := by unfold wrap32 wrap64; omega
theorem wrap32_sub (x y : Int) : wrap32 (wrap32 x - y) = wrap32 (x - y) := by unfold wrap32; omega
theorem wrap32_u32 (n : Int) : wrap32 (n % 4294967296) = wrap32 n := by unfold wrap32; omega
theorem wrap32_wrap32 (n : Int) : wrap32 (wrap32 n) = wrap32 n := by unfold wrap32; omega
theorem wrap32_le (n : Int) : -2147483648 ≤ wrap32 n ∧ wrap32 n ≤ 2147483647 := by unfold wrap32; omega

theorem i32_wrap (n : Int) : IntKind.i32.wrap n = (BitVec.ofInt 32 n).toInt := by rw [IntWalk.i32_left, wrap32_ofInt]
theorem or_i32 (x y : Int) : bits .or .i32 x y = (BitVec.ofInt 32 x ||| BitVec.ofInt 32 y).toInt := by
  show IntKind.i32.wrap ((BitVec.ofInt 32 x ||| BitVec.ofInt 32 y).toNat : Int) = _
  rw [i32_wrap, ofInt_toNat]
theorem and_i32 (x y : Int) : bits .and .i32 x y = (BitVec.ofInt 32 x &&& BitVec.ofInt 32 y).toInt := by
  show IntKind.i32.wrap ((BitVec.ofInt 32 x &&& BitVec.ofInt 32 y).toNat : Int) = _
  rw [i32_wrap, ofInt_toNat]
theorem toInt_i32 (x : BitVec 32) : -2147483648 ≤ x.toInt ∧ x.toInt ≤ 2147483647 := by
  have := wrap32_le x.toInt
  rwa [wrap32_ofInt, BitVec.ofInt_toInt] at this
theorem bit0 (y : BitVec 32) : (y.toInt % 2 == 1) = y.getLsbD 0 := by
  rw [← BitVec.testBit_toNat, Nat.testBit_zero, BitVec.toInt_eq_toNat_cond]
  rw [Bool.eq_iff_iff]
  simp only [beq_iff_eq, decide_eq_true_eq]
  have e32 : ((2 ^ 32 : Nat) : Int) = 4294967296 := rfl
  rw [e32]
  split <;> omega
theorem bitAt (x : BitVec 32) (k : Nat) (hk : k < 32) : (x.toInt / 2 ^ k % 2 == 1) = x.getLsbD k := by
  have h := @BitVec.toInt_sshiftRight 32 x k
  rw [Int.shiftRight_eq_div_pow] at h
  have e : x.toInt / 2 ^ k = (x.sshiftRight k).toInt := by rw [h]; simp
  rw [e, bit0, BitVec.getLsbD_sshiftRight]
  simp [hk]
/-- Is n one of 0 to 31, and is that bit of s set? -/
def hasBit (n s : Int) : Bool := decide (0 ≤ n) && decide (n < 32) && (s / 2 ^ n.toNat % 2 == 1)
theorem hasBit_in (n s : Int) (h0 : 0 ≤ n) (h1 : n < 32) : hasBit n s = (s / 2 ^ n.toNat % 2 == 1) := by simp [hasBit, h0, h1]
theorem hasBit_out (n s : Int) (h : ¬ (0 ≤ n ∧ n < 32)) : hasBit n s = false := by
  unfold hasBit
  by_cases h0 : 0 ≤ n
  · simp [h0, show ¬ n < 32 by omega]
  · simp [h0]
theorem pow_twoPow (k : Nat) : BitVec.ofInt 32 (2 ^ k) = BitVec.twoPow 32 k := by
  apply BitVec.eq_of_toNat_eq
  rw [BitVec.toNat_twoPow]
  have : ((2 : Int) ^ k) = ((2 ^ k : Nat) : Int) := by simp
  rw [this, BitVec.ofInt_natCast, BitVec.toNat_ofNat]
theorem andBit (s : Int) (k : Nat) (hk : k < 32) (h0 : -2147483648 ≤ s) (h1 : s ≤ 2147483647) : (bits .and .i32 s (wrap32 (2 ^ k)) != 0) = (s / 2 ^ k % 2 == 1) := by
  rw [and_i32, wrap32_ofInt, BitVec.ofInt_toInt, pow_twoPow, BitVec.and_twoPow]
  have e := bitAt (BitVec.ofInt 32 s) k hk
  rw [toInt_ofInt_i32 s h0 (by omega)] at e
  rw [e]
  cases hb : (BitVec.ofInt 32 s).getLsbD k
  · simp
  · simp only [if_true]
    have : BitVec.twoPow 32 k ≠ 0#32 := fun he => by
      have := congrArg (fun v => v.getLsbD k) he
      simp [hk] at this
    have h2 : (BitVec.twoPow 32 k).toInt ≠ (0#32).toInt := BitVec.toInt_ne.2 this
    rw [BitVec.toInt_zero] at h2
    simp [h2]
/-- The set of a and the k - 1 that follow. -/
def span (a : Nat) : Nat → BitVec 32
  | 0 => 0#32
  | k + 1 => span a k ||| BitVec.twoPow 32 (a + k)
theorem span_bit (a k i : Nat) (h : a + k ≤ 32) : (span a k).getLsbD i = (decide (a ≤ i) && decide (i < a + k)) := by
  induction k with
  | zero => simp [span]
  | succ k ih =>
    rw [span, BitVec.getLsbD_or, ih (by omega), BitVec.getLsbD_twoPow]
    rw [Bool.eq_iff_iff]; simp; omega
theorem span_step (a k : Nat) : bits .or .i32 (span a k).toInt (wrap32 (2 ^ (a + k))) = (span a (k + 1)).toInt := by
  rw [or_i32, wrap32_ofInt, BitVec.ofInt_toInt, BitVec.ofInt_toInt, pow_twoPow, span]
theorem span_has (a k i : Nat) (h : a + k ≤ 32) (hi : i < 32) : hasBit i (span a k).toInt = (decide (a ≤ i) && decide (i < a + k)) := by
  rw [hasBit_in _ _ (by omega) (by omega), Int.toNat_natCast, bitAt _ _ hi, span_bit a k i h]
theorem rlsl_eq (a : Int) (k : Nat) : wrap32 (a % 4294967296 * 2 ^ k % 4294967296) = wrap32 (a * 2 ^ k) := by rw [mod_mul_eq, wrap32_u32]

theorem ror_left (a n : Int) : wrap32 (bits .or .u32 (a % 4294967296 * 2 ^ ((- (n % 32)) % 32).toNat % 4294967296) (a % 4294967296 / 2 ^ (32 - (- (n % 32)) % 32).toNat)) = ror a n := by
  have e1 : ((- (n % 32)) % 32).toNat = (32 - (n % 32).toNat) % 32 := by omega
  have e2 : (32 - (- (n % 32)) % 32).toNat = 32 - (32 - (n % 32).toNat) % 32 := by omega
  rw [or_u32, wrap32_ofInt, ofInt_toNat, ofInt_shl, ofInt_shr _ (by omega) (by omega), ofInt_mod, e1, e2, rotl _ _ (by omega), ror]
theorem ror_right (a n : Int) : wrap32 (bits .or .u32 (a % 4294967296 / 2 ^ (n % 32).toNat) (a % 4294967296 * 2 ^ (32 - n % 32).toNat % 4294967296)) = ror a n := by
  have e2 : (32 - n % 32).toNat = 32 - (n % 32).toNat := by omega
  rw [or_u32, wrap32_ofInt, ofInt_toNat, ofInt_shl, ofInt_shr _ (by omega) (by omega), ofInt_mod, e2, ← rotr _ _ (by omega), ror]
theorem ror_back (a n : Int) (h0 : -2147483648 ≤ a) (h : a < 2147483648) : ror (ror a n) (32 - n % 32) = a := by
  have e : ((32 - n % 32) % 32).toNat = (32 - (n % 32).toNat) % 32 := by omega
  rw [ror, ror, BitVec.ofInt_toInt, e, rot_back _ _ (by omega), toInt_ofInt_i32 a h0 h]

theorem divmod_back (a b : Int) (h0 : -2147483648 ≤ a) (h : a ≤ 2147483647) : wrap32 (wrap32 (a / b * b) + a % b) = a := by
  have := Int.mul_ediv_add_emod a b
  have e : a / b * b + a % b = a := by rw [Int.mul_comm]; exact this
  have h2 : wrap32 (wrap32 (a / b * b) + a % b) = wrap32 (a / b * b + a % b) := by unfold wrap32; omega
  rw [h2, e]; exact IntWalk.wrap32_in _ (by omega)

theorem rot_rot (x : BitVec 32) (p q : Nat) : (x.rotateRight p).rotateRight q = x.rotateRight ((p + q) % 32) := by
  apply BitVec.eq_of_getLsbD_eq
  intro i hi
  rw [BitVec.getLsbD_rotateRight, BitVec.getLsbD_rotateRight, BitVec.getLsbD_rotateRight, BitVec.getLsbD_rotateRight]
  have hp : p % 32 < 32 := Nat.mod_lt _ (by decide)
  have hq : q % 32 < 32 := Nat.mod_lt _ (by decide)
  have hs : (p + q) % 32 % 32 = (p % 32 + q % 32) % 32 := by omega
  rw [hs]
  generalize p % 32 = P at *
  generalize q % 32 = Q at *
  by_cases h1 : i < 32 - Q
  · rw [show decide (i < 32 - Q) = true from by simp [h1]]
    simp only [cond_true]
    by_cases h2 : Q + i < 32 - P
    · rw [show decide (Q + i < 32 - P) = true from by simp [h2]]
      simp only [cond_true]
      by_cases h3 : P + Q < 32
      · rw [Nat.mod_eq_of_lt h3, show decide (i < 32 - (P + Q)) = true from by simp; omega]
        simp only [cond_true]; congr 1; omega
      · omega
    · rw [show decide (Q + i < 32 - P) = false from by simp; omega, show decide (Q + i < 32) = true from by simp; omega]
      simp only [cond_false, Bool.true_and]
      by_cases h3 : P + Q < 32
      · rw [Nat.mod_eq_of_lt h3, show decide (i < 32 - (P + Q)) = false from by simp; omega, show decide (i < 32) = true from by simp [hi]]
        simp only [cond_false, Bool.true_and]; congr 1; omega
      · rw [show (P + Q) % 32 = P + Q - 32 by omega, show decide (i < 32 - (P + Q - 32)) = true from by simp; omega]
        simp only [cond_true]; congr 1; omega
  · rw [show decide (i < 32 - Q) = false from by simp; omega, show decide (i < 32) = true from by simp [hi]]
    simp only [cond_false, Bool.true_and]
    by_cases h2 : i - (32 - Q) < 32 - P
    · rw [show decide (i - (32 - Q) < 32 - P) = true from by simp [h2]]
      simp only [cond_true]
      by_cases h3 : P + Q < 32
      · rw [Nat.mod_eq_of_lt h3, show decide (i < 32 - (P + Q)) = false from by simp; omega]
        simp only [cond_false]; congr 1; omega
      · rw [show (P + Q) % 32 = P + Q - 32 by omega, show decide (i < 32 - (P + Q - 32)) = true from by simp; omega]
        simp only [cond_true]; congr 1; omega
    · rw [show decide (i - (32 - Q) < 32 - P) = false from by simp; omega, show decide (i - (32 - Q) < 32) = true from by simp; omega]
      simp only [cond_false, Bool.true_and]
      rw [show (P + Q) % 32 = P + Q - 32 by omega, show decide (i < 32 - (P + Q - 32)) = false from by simp; omega]
      simp only [cond_false]; congr 1; omega
/-- Moved round k times, each time by n. -/
def rorN (a n : Int) (k : Nat) : Int := ((BitVec.ofInt 32 a).rotateRight ((k * (n % 32).toNat) % 32)).toInt
theorem rorN_zero (a n : Int) (h0 : -2147483648 ≤ a) (h : a < 2147483648) : rorN a n 0 = a := by
  rw [rorN, Nat.zero_mul, Nat.zero_mod, rotr _ 0 (by decide)]
  have e : (BitVec.ofInt 32 a) >>> 0 ||| (BitVec.ofInt 32 a) <<< (32 - 0) = BitVec.ofInt 32 a := by
    simp
  rw [e, toInt_ofInt_i32 a h0 h]
theorem rorN_succ (a n : Int) (k : Nat) : ror (rorN a n k) n = rorN a n (k + 1) := by
  rw [ror, rorN, BitVec.ofInt_toInt, rot_rot, rorN, Nat.succ_mul]
  congr 2; omega
theorem rorN_full (a n : Int) (h0 : -2147483648 ≤ a) (h : a < 2147483648) : rorN a n 32 = a := by
  have : rorN a n 32 = rorN a n 0 := by rw [rorN, rorN]; congr 2; omega
  rw [this, rorN_zero a n h0 h]
theorem mask_i32 (x : Int) (k : Nat) (hk : k < 32) : bits .and .i32 x (2 ^ k - 1) = x % 2 ^ k := mask .i32 k (by simp [IntKind.bits]; omega) (.inr (by simpa [IntKind.bits] using hk)) x
theorem pow_le30 (k : Nat) (hk : k ≤ 30) : (1 : Int) ≤ 2 ^ k ∧ (2 : Int) ^ k ≤ 1073741824 := by
  have h1 : 2 ^ k ≤ 2 ^ 30 := Nat.pow_le_pow_right (by decide) hk
  have h2 := Nat.two_pow_pos k
  have e : ((2 : Int) ^ k) = ((2 ^ k : Nat) : Int) := by simp
  rw [e]
  omega
theorem span_union (a k m : Nat) : bits .or .i32 (span a k).toInt (span (a + k) m).toInt = (span a (k + m)).toInt := by
  rw [or_i32, BitVec.ofInt_toInt, BitVec.ofInt_toInt]
  congr 1
  induction m with
  | zero => simp [span]
  | succ m ih => rw [span, ← BitVec.or_assoc, ih, ← Nat.add_assoc, span, Nat.add_assoc]
theorem span_apart (a k m : Nat) (h : a + k + m ≤ 32) : bits .and .i32 (span a k).toInt (span (a + k) m).toInt = 0 := by
  rw [and_i32, BitVec.ofInt_toInt, BitVec.ofInt_toInt]
  have : span a k &&& span (a + k) m = 0#32 := by
    apply BitVec.eq_of_getLsbD_eq
    intro i hi
    rw [BitVec.getLsbD_and, span_bit _ _ _ (by omega), span_bit _ _ _ (by omega), BitVec.getLsbD_zero]
    simp; omega
  rw [this, BitVec.toInt_zero]
theorem or_zero_i32 (x : BitVec 32) : bits .or .i32 x.toInt 0 = x.toInt := by rw [or_i32, BitVec.ofInt_toInt]; simp
theorem and_zero_i32 (x : BitVec 32) : bits .and .i32 x.toInt 0 = 0 := by rw [and_i32, BitVec.ofInt_toInt]; simp

theorem rng_i32 {n : Int} (h : (Lit.int .i32 n).wf = true) : -2147483648 ≤ n ∧ n ≤ 2147483647 := by
  simp [Lit.wf, IntKind.min, IntKind.max, IntKind.signed, IntKind.bits] at h; exact h
theorem rng_u8 {n : Int} (h : (Lit.int .u8 n).wf = true) : 0 ≤ n ∧ n ≤ 255 := by
  simp [Lit.wf, IntKind.min, IntKind.max, IntKind.signed, IntKind.bits] at h; exact h
theorem rng_u16 {n : Int} (h : (Lit.int .u16 n).wf = true) : 0 ≤ n ∧ n ≤ 65535 := by
  simp [Lit.wf, IntKind.min, IntKind.max, IntKind.signed, IntKind.bits] at h; exact h
theorem rng_u32 {n : Int} (h : (Lit.int .u32 n).wf = true) : 0 ≤ n ∧ n ≤ 4294967295 := by
  simp [Lit.wf, IntKind.min, IntKind.max, IntKind.signed, IntKind.bits] at h; exact h
theorem rng_u64 {n : Int} (h : (Lit.int .u64 n).wf = true) : 0 ≤ n ∧ n ≤ 18446744073709551615 := by
  simp [Lit.wf, IntKind.min, IntKind.max, IntKind.signed, IntKind.bits] at h; exact h
theorem rng_i64 {n : Int} (h : (Lit.int .i64 n).wf = true) : -9223372036854775808 ≤ n ∧ n ≤ 9223372036854775807 := by
  simp [Lit.wf, IntKind.min, IntKind.max, IntKind.signed, IntKind.bits] at h; exact h
theorem rng_i16 {n : Int} (h : (Lit.int .i16 n).wf = true) : -32768 ≤ n ∧ n ≤ 32767 := by
  simp [Lit.wf, IntKind.min, IntKind.max, IntKind.signed, IntKind.bits] at h; exact h
theorem grown_same {P : Program} {f : FuncId} {args : Array Value} {w : World} {v : Value} (h : Calls P f args w fun e w' => e = .returned v ∧ w = w') : Calls P f args w fun e w' => e = .returned v ∧ Grown w w' :=
  h.mono fun _ _ ⟨he, hw⟩ => ⟨he, hw ▸ Grown.refl _⟩
theorem below_same {P : Program} {f : FuncId} {args : Array Value} {w : World} {v : Value} (h : Calls P f args w fun e w' => e = .returned v ∧ w = w') : Calls P f args w fun e w' => e = .returned v ∧ Below w.heap.size w w' :=
  h.mono fun _ _ ⟨he, hw⟩ => ⟨he, hw ▸ Below.refl _ _⟩
end Go.Waf
