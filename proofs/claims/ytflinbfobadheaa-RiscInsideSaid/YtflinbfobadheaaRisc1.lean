/- Instructions of RISC5 as numbers: the plain law, with no program in sight. -/
import Derived.Test.YtflinbfobadheaaLib
import Derived.Test.YtflinbfobadheaaMem3
namespace Go.Waf
open Go.RowKit
set_option linter.unusedVariables false

structure Ins where
  f : Int := 0
  u : Bool := false
  v : Bool := false
  a : Int := 0
  b : Int := 0
  c : Int := 0
  op : Int := 0
  imm : Int := 0
def insV (i : Ins) : Value := .agg #[.int .i64 i.f, .bool i.u, .bool i.v, .int .i64 i.a, .int .i64 i.b, .int .i64 i.c, .int .i64 i.op, .int .i32 i.imm]
def ext20 (w : Int) : Int := if w % 1048576 < 524288 then w % 1048576 else w % 1048576 - 1048576
def ext24 (w : Int) : Int := if w % 16777216 < 8388608 then w % 16777216 else w % 16777216 - 16777216
def uOf (w : Int) : Bool := w / 536870912 % 2 == 1
def vOf (w : Int) : Bool := w / 268435456 % 2 == 1
def aOf (w : Int) : Int := w / 16777216 % 16
def bOf (w : Int) : Int := w / 1048576 % 16
def opOf (w : Int) : Int := w / 65536 % 16
def cOf (w : Int) : Int := w % 16
def fOf (w : Int) : Int := w / 1073741824
/-- What a word says. -/
def decI (w : Int) : Ins :=
  if fOf w = 0 then { f := 0, u := uOf w, v := vOf w, a := aOf w, b := bOf w, op := opOf w, c := cOf w }
  else if fOf w = 1 then { f := 1, u := uOf w, v := vOf w, a := aOf w, b := bOf w, op := opOf w, imm := w % 65536 }
  else if fOf w = 2 then { f := 2, u := uOf w, v := vOf w, a := aOf w, b := bOf w, imm := ext20 w }
  else if uOf w then { f := 3, u := true, v := vOf w, a := aOf w, imm := ext24 w }
  else { f := 3, u := false, v := vOf w, a := aOf w, imm := w / 16 % 16, c := cOf w }
def decOk (w : Int) : Bool := if fOf w = 0 then w / 16 % 4096 == 0 else if fOf w = 3 then uOf w || w / 256 % 65536 == 0 else true
def num (b : Bool) : Int := if b then 1 else 0
/-- The word of an instruction. -/
def encW (i : Ins) : Int := i.f * 1073741824 + num i.u * 536870912 + num i.v * 268435456 + i.a * 16777216 +
  (if i.f = 0 then i.b * 1048576 + i.op * 65536 + i.c else if i.f = 1 then i.b * 1048576 + i.op * 65536 + i.imm else if i.f = 2 then i.b * 1048576 + i.imm % 1048576 else if i.u then i.imm % 16777216 else i.imm * 16 + i.c)
def nib (n : Int) : Prop := 0 ≤ n ∧ n < 16
def Right (i : Ins) : Prop := nib i.a ∧ nib i.b ∧ nib i.c ∧ nib i.op ∧
  ((i.f = 0 ∧ i.imm = 0) ∨ (i.f = 1 ∧ i.c = 0 ∧ 0 ≤ i.imm ∧ i.imm < 65536) ∨ (i.f = 2 ∧ i.c = 0 ∧ i.op = 0 ∧ -524288 ≤ i.imm ∧ i.imm < 524288) ∨
    (i.f = 3 ∧ i.b = 0 ∧ i.op = 0 ∧ i.u = true ∧ i.c = 0 ∧ -8388608 ≤ i.imm ∧ i.imm < 8388608) ∨ (i.f = 3 ∧ i.b = 0 ∧ i.op = 0 ∧ i.u = false ∧ 0 ≤ i.imm ∧ i.imm < 16))

theorem and_u32_nat (x m : Nat) (hx : x < 4294967296) (hm : m < 4294967296) : bits .and .u32 (x : Int) (m : Int) = ((x &&& m : Nat) : Int) := by
  show IntKind.u32.wrap ((BitVec.ofInt 32 (x : Int) &&& BitVec.ofInt 32 (m : Int)).toNat : Int) = _
  rw [BitVec.ofInt_natCast, BitVec.ofInt_natCast, BitVec.toNat_and, BitVec.toNat_ofNat, BitVec.toNat_ofNat, Nat.mod_eq_of_lt hx, Nat.mod_eq_of_lt hm, u32_mod]
  have h : x &&& m ≤ x := Nat.and_le_left
  omega
theorem or_u32_nat (x m : Nat) (hx : x < 4294967296) (hm : m < 4294967296) : bits .or .u32 (x : Int) (m : Int) = ((x ||| m : Nat) : Int) := by
  show IntKind.u32.wrap ((BitVec.ofInt 32 (x : Int) ||| BitVec.ofInt 32 (m : Int)).toNat : Int) = _
  rw [BitVec.ofInt_natCast, BitVec.ofInt_natCast, BitVec.toNat_or, BitVec.toNat_ofNat, BitVec.toNat_ofNat, Nat.mod_eq_of_lt hx, Nat.mod_eq_of_lt hm, u32_mod]
  have h : x ||| m < 2 ^ 32 := Nat.or_lt_two_pow hx hm
  omega
theorem mask15_u32 (x : Int) : bits .and .u32 x 15 = x % 16 := mask .u32 4 (by decide) (by decide) x
theorem mask1_u32' (x : Int) : bits .and .u32 x 1 = x % 2 := mask .u32 1 (by decide) (by decide) x
theorem mask16_u32 (x : Int) : bits .and .u32 x 65535 = x % 65536 := mask .u32 16 (by decide) (by decide) x
theorem mask20_u32 (x : Int) : bits .and .u32 x 1048575 = x % 1048576 := mask .u32 20 (by decide) (by decide) x
theorem mask24_u32 (x : Int) : bits .and .u32 x 16777215 = x % 16777216 := mask .u32 24 (by decide) (by decide) x
theorem and_shl (x m k : Nat) : x &&& (m * 2 ^ k) = ((x / 2 ^ k) &&& m) * 2 ^ k := by
  rw [← Nat.shiftLeft_eq, ← Nat.shiftLeft_eq, ← Nat.shiftRight_eq_div_pow]
  apply Nat.eq_of_testBit_eq
  intro i
  simp only [Nat.testBit_and, Nat.testBit_shiftLeft, Nat.testBit_shiftRight]
  by_cases h : k ≤ i
  · simp [h, show k + (i - k) = i by omega]
  · simp [h]
theorem mask_mid (x : Int) (h0 : 0 ≤ x) (h1 : x < 4294967296) : bits .and .u32 x 65520 = x / 16 % 4096 * 16 := by
  obtain ⟨n, rfl⟩ := Int.eq_ofNat_of_zero_le h0
  have e := and_u32_nat n 65520 (by omega) (by omega)
  have e2 := and_shl n 4095 4
  rw [show (4095 : Nat) = 2 ^ 12 - 1 from rfl, Nat.and_two_pow_sub_one_eq_mod] at e2
  rw [show ((2 ^ 12 - 1) * 2 ^ 4 : Nat) = 65520 from rfl] at e2
  rw [e2] at e
  have e3 : ((65520 : Nat) : Int) = 65520 := rfl
  rw [e3] at e
  rw [e]; omega
theorem mask_mid2 (x : Int) (h0 : 0 ≤ x) (h1 : x < 4294967296) : bits .and .u32 x 16776960 = x / 256 % 65536 * 256 := by
  obtain ⟨n, rfl⟩ := Int.eq_ofNat_of_zero_le h0
  have e := and_u32_nat n 16776960 (by omega) (by omega)
  have e2 := and_shl n 65535 8
  rw [show (65535 : Nat) = 2 ^ 16 - 1 from rfl, Nat.and_two_pow_sub_one_eq_mod] at e2
  rw [show ((2 ^ 16 - 1) * 2 ^ 8 : Nat) = 16776960 from rfl] at e2
  rw [e2] at e
  have e3 : ((16776960 : Nat) : Int) = 16776960 := rfl
  rw [e3] at e
  rw [e]; omega
/-- What lies apart is added. -/
theorem or_apart (k : Nat) (x y : Int) (h0 : 0 ≤ x) (h1 : x < 4294967296) (hx : x % 2 ^ k = 0) (h2 : 0 ≤ y) (hy : y < 2 ^ k) (hk : k ≤ 32) : bits .or .u32 x y = x + y := by
  obtain ⟨n, rfl⟩ := Int.eq_ofNat_of_zero_le h0
  obtain ⟨m, rfl⟩ := Int.eq_ofNat_of_zero_le h2
  have hp : (2:Int) ^ k = ((2 ^ k : Nat) : Int) := by simp
  rw [hp] at hx hy
  have hy' : m < 2 ^ k := by exact_mod_cast hy
  have hx' : n % 2 ^ k = 0 := by exact_mod_cast hx
  have hk2 : 2 ^ k ≤ 2 ^ 32 := Nat.pow_le_pow_right (by decide) hk
  rw [or_u32_nat n m (by omega) (by omega)]
  have e := Nat.mul_comm (2 ^ k) (n / 2 ^ k)
  have e2 := Nat.div_add_mod n (2 ^ k)
  rw [hx', Nat.add_zero] at e2
  have e4 : n ||| m = n + m := by
    conv => lhs; rw [← e2]
    rw [← Nat.two_pow_add_eq_or_of_lt hy', e2]
  rw [e4]; simp

theorem ext20_eq (w : Int) (h0 : 0 ≤ w) (h1 : w < 4294967296) : wrap32 (w * 4096 % 4294967296) / 4096 = ext20 w := by
  unfold wrap32 ext20; split <;> omega
theorem ext24_eq (w : Int) (h0 : 0 ≤ w) (h1 : w < 4294967296) : wrap32 (w * 256 % 4294967296) / 256 = ext24 w := by
  unfold wrap32 ext24; split <;> omega
theorem ext20_in (w : Int) : -524288 ≤ ext20 w ∧ ext20 w < 524288 := by unfold ext20; split <;> omega
theorem ext24_in (w : Int) : -8388608 ≤ ext24 w ∧ ext24 w < 8388608 := by unfold ext24; split <;> omega
theorem ext20_mod (w : Int) : ext20 w % 1048576 = w % 1048576 := by unfold ext20; split <;> omega
theorem ext24_mod (w : Int) : ext24 w % 16777216 = w % 16777216 := by unfold ext24; split <;> omega
theorem ext20_of_mod (w : Int) : ext20 (w % 1048576) = ext20 w := by unfold ext20; rw [Int.emod_emod]
theorem ext24_of_mod (w : Int) : ext24 (w % 16777216) = ext24 w := by unfold ext24; rw [Int.emod_emod]
theorem num_beq (x : Int) : num (x % 2 == 1) = x % 2 := by
  unfold num
  by_cases h : x % 2 = 1
  · simp [h]
  · have : x % 2 = 0 := by omega
    simp [this]
theorem fOf_in (w : Int) (h0 : 0 ≤ w) (h1 : w < 4294967296) : fOf w = 0 ∨ fOf w = 1 ∨ fOf w = 2 ∨ fOf w = 3 := by unfold fOf; omega
theorem dec_right (w : Int) (h0 : 0 ≤ w) (h1 : w < 4294967296) : Right (decI w) := by
  have e20 := ext20_in w
  have e24 := ext24_in w
  unfold decI Right nib aOf bOf opOf cOf
  rcases fOf_in w h0 h1 with h | h | h | h
  · rw [h, if_pos rfl]; simp; omega
  · rw [h, if_neg (by omega), if_pos rfl]; simp; omega
  · rw [h, if_neg (by omega), if_neg (by omega), if_pos rfl]; simp; omega
  · rw [h, if_neg (by omega), if_neg (by omega), if_neg (by omega)]
    cases hu : uOf w
    · simp; omega
    · simp; omega
theorem decI_0 (w : Int) (h : fOf w = 0) : decI w = { f := 0, u := uOf w, v := vOf w, a := aOf w, b := bOf w, op := opOf w, c := cOf w } := by unfold decI; rw [if_pos h]
theorem decI_1 (w : Int) (h : fOf w = 1) : decI w = { f := 1, u := uOf w, v := vOf w, a := aOf w, b := bOf w, op := opOf w, imm := w % 65536 } := by unfold decI; rw [if_neg (by omega), if_pos h]
theorem decI_2 (w : Int) (h : fOf w = 2) : decI w = { f := 2, u := uOf w, v := vOf w, a := aOf w, b := bOf w, imm := ext20 w } := by unfold decI; rw [if_neg (by omega), if_neg (by omega), if_pos h]
theorem decI_3 (w : Int) (h : fOf w = 3) (hu : uOf w = true) : decI w = { f := 3, u := true, v := vOf w, a := aOf w, imm := ext24 w } := by unfold decI; rw [if_neg (by omega), if_neg (by omega), if_neg (by omega), if_pos hu]
theorem decI_4 (w : Int) (h : fOf w = 3) (hu : uOf w = false) : decI w = { f := 3, u := false, v := vOf w, a := aOf w, imm := w / 16 % 16, c := cOf w } := by unfold decI; rw [if_neg (by omega), if_neg (by omega), if_neg (by omega), if_neg (by rw [hu]; simp)]
theorem decOk_0 (w : Int) (h : fOf w = 0) : decOk w = (w / 16 % 4096 == 0) := by unfold decOk; rw [if_pos h]
theorem decOk_1 (w : Int) (h : fOf w = 1 ∨ fOf w = 2) : decOk w = true := by unfold decOk; rw [if_neg (by omega), if_neg (by omega)]
theorem decOk_3 (w : Int) (h : fOf w = 3) (hu : uOf w = true) : decOk w = true := by unfold decOk; rw [if_neg (by omega), if_pos h, hu]; rfl
theorem decOk_4 (w : Int) (h : fOf w = 3) (hu : uOf w = false) : decOk w = (w / 256 % 65536 == 0) := by unfold decOk; rw [if_neg (by omega), if_pos h, hu]; rfl
theorem enc_dec (w : Int) (h0 : 0 ≤ w) (h1 : w < 4294967296) : (encW (decI w) = w) ↔ decOk w = true := by
  have e20 := ext20_mod w
  have e24 := ext24_mod w
  have hu : num (uOf w) = w / 536870912 % 2 := num_beq (w / 536870912)
  have hv : num (vOf w) = w / 268435456 % 2 := num_beq (w / 268435456)
  rcases fOf_in w h0 h1 with h | h | h | h
  · rw [decI_0 w h, decOk_0 w h]
    simp only [encW, if_true, hu, hv, aOf, bOf, opOf, cOf, beq_iff_eq]
    unfold fOf at h
    omega
  · rw [decI_1 w h, decOk_1 w (.inl h)]
    simp only [encW, if_true, hu, hv, aOf, bOf, opOf, show ¬ (1 : Int) = 0 by omega, if_false, iff_true]
    unfold fOf at h
    omega
  · rw [decI_2 w h, decOk_1 w (.inr h)]
    simp only [encW, if_true, hu, hv, aOf, bOf, show ¬ (2 : Int) = 0 by omega, show ¬ (2 : Int) = 1 by omega, if_false, iff_true, e20]
    unfold fOf at h
    omega
  · cases hc : uOf w
    · rw [decI_4 w h hc, decOk_4 w h hc]
      rw [hc] at hu
      simp only [encW, hv, aOf, cOf, show ¬ (3 : Int) = 0 by omega, show ¬ (3 : Int) = 1 by omega, show ¬ (3 : Int) = 2 by omega, if_false, Bool.false_eq_true, beq_iff_eq]
      unfold fOf at h
      simp only [num, Bool.false_eq_true, if_false] at hu ⊢
      omega
    · rw [decI_3 w h hc, decOk_3 w h hc]
      rw [hc] at hu
      simp only [encW, hv, aOf, show ¬ (3 : Int) = 0 by omega, show ¬ (3 : Int) = 1 by omega, show ¬ (3 : Int) = 2 by omega, if_false, if_true, iff_true, e24]
      unfold fOf at h
      simp only [num, if_true] at hu ⊢
      omega
theorem num_in (b : Bool) : 0 ≤ num b ∧ num b ≤ 1 := by cases b <;> simp [num]
theorem num_is (b : Bool) : (num b == 1) = b := by cases b <;> rfl
theorem enc_in (i : Ins) (h : Right i) : 0 ≤ encW i ∧ encW i < 4294967296 := by
  obtain ⟨h1, h2, h3, h4, h5⟩ := h
  have hu := num_in i.u
  have hv := num_in i.v
  unfold nib at h1 h2 h3 h4
  unfold encW
  rcases h5 with ⟨a, b⟩ | ⟨a, b⟩ | ⟨a, b⟩ | ⟨a, b⟩ | ⟨a, b⟩
  · rw [a, if_pos rfl]; omega
  · rw [a, if_neg (by omega), if_pos rfl]; omega
  · rw [a, if_neg (by omega), if_neg (by omega), if_pos rfl]; omega
  · rw [a, if_neg (by omega), if_neg (by omega), if_neg (by omega), if_pos b.2.2.1]; omega
  · rw [a, if_neg (by omega), if_neg (by omega), if_neg (by omega), if_neg (by rw [b.2.2.1]; simp)]; omega
theorem dec_enc (i : Ins) (h : Right i) : decI (encW i) = i ∧ decOk (encW i) = true := by
  have hin := enc_in i h
  obtain ⟨h1, h2, h3, h4, h5⟩ := h
  have hu := num_in i.u
  have hv := num_in i.v
  unfold nib at h1 h2 h3 h4
  obtain ⟨f, u, v, a, b, c, op, imm⟩ := i
  simp only at h1 h2 h3 h4 h5 hu hv hin
  obtain ⟨U, hU⟩ : ∃ U, U = num u := ⟨_, rfl⟩
  obtain ⟨V, hV⟩ : ∃ V, V = num v := ⟨_, rfl⟩
  have iu : (U == 1) = u := by rw [hU, num_is]
  have iv : (V == 1) = v := by rw [hV, num_is]
  rw [← hU] at hu
  rw [← hV] at hv
  rcases h5 with ⟨rfl, rfl⟩ | ⟨rfl, rfl, p, q⟩ | ⟨rfl, rfl, rfl, p, q⟩ | ⟨rfl, rfl, rfl, rfl, rfl, p, q⟩ | ⟨rfl, rfl, rfl, rfl, p, q⟩
  · have e : encW ⟨0, u, v, a, b, c, op, 0⟩ = U * 536870912 + V * 268435456 + a * 16777216 + b * 1048576 + op * 65536 + c := by rw [hU, hV]; simp [encW]; omega
    rw [e]
    generalize hw : U * 536870912 + V * 268435456 + a * 16777216 + b * 1048576 + op * 65536 + c = w
    have ef : fOf w = 0 := by unfold fOf; omega
    have eu : uOf w = u := by rw [← iu]; unfold uOf; rw [show w / 536870912 % 2 = U by omega]
    have ev : vOf w = v := by rw [← iv]; unfold vOf; rw [show w / 268435456 % 2 = V by omega]
    refine ⟨?_, ?_⟩
    · unfold decI
      rw [ef, if_pos rfl, eu, ev, show aOf w = a by unfold aOf; omega, show bOf w = b by unfold bOf; omega, show opOf w = op by unfold opOf; omega, show cOf w = c by unfold cOf; omega]
    · unfold decOk
      rw [ef, if_pos rfl, beq_iff_eq]; omega
  · have e : encW ⟨1, u, v, a, b, 0, op, imm⟩ = 1073741824 + U * 536870912 + V * 268435456 + a * 16777216 + b * 1048576 + op * 65536 + imm := by rw [hU, hV]; simp [encW]; omega
    rw [e]
    generalize hw : 1073741824 + U * 536870912 + V * 268435456 + a * 16777216 + b * 1048576 + op * 65536 + imm = w
    have ef : fOf w = 1 := by unfold fOf; omega
    have eu : uOf w = u := by rw [← iu]; unfold uOf; rw [show w / 536870912 % 2 = U by omega]
    have ev : vOf w = v := by rw [← iv]; unfold vOf; rw [show w / 268435456 % 2 = V by omega]
    refine ⟨?_, ?_⟩
    · unfold decI
      rw [ef, if_neg (by omega), if_pos rfl, eu, ev, show aOf w = a by unfold aOf; omega, show bOf w = b by unfold bOf; omega, show opOf w = op by unfold opOf; omega, show w % 65536 = imm by omega]
    · unfold decOk
      rw [ef, if_neg (by omega), if_neg (by omega)]
  · obtain ⟨M, hM⟩ : ∃ M, M = imm % 1048576 := ⟨_, rfl⟩
    have e : encW ⟨2, u, v, a, b, 0, 0, imm⟩ = 2147483648 + U * 536870912 + V * 268435456 + a * 16777216 + b * 1048576 + M := by rw [hU, hV, hM]; simp [encW]; omega
    rw [e]
    generalize hw : 2147483648 + U * 536870912 + V * 268435456 + a * 16777216 + b * 1048576 + M = w
    have ef : fOf w = 2 := by unfold fOf; omega
    have eu : uOf w = u := by rw [← iu]; unfold uOf; rw [show w / 536870912 % 2 = U by omega]
    have ev : vOf w = v := by rw [← iv]; unfold vOf; rw [show w / 268435456 % 2 = V by omega]
    have em : ext20 w = imm := by unfold ext20; split <;> omega
    refine ⟨?_, ?_⟩
    · unfold decI
      rw [ef, if_neg (by omega), if_neg (by omega), if_pos rfl, eu, ev, show aOf w = a by unfold aOf; omega, show bOf w = b by unfold bOf; omega, em]
    · unfold decOk
      rw [ef, if_neg (by omega), if_neg (by omega)]
  · obtain ⟨M, hM⟩ : ∃ M, M = imm % 16777216 := ⟨_, rfl⟩
    have hU1 : U = 1 := by rw [hU]; rfl
    have e : encW ⟨3, true, v, a, 0, 0, 0, imm⟩ = 3221225472 + U * 536870912 + V * 268435456 + a * 16777216 + M := by rw [hU, hV, hM]; simp [encW]
    rw [e]
    generalize hw : 3221225472 + U * 536870912 + V * 268435456 + a * 16777216 + M = w
    have ef : fOf w = 3 := by unfold fOf; omega
    have eu : uOf w = true := by rw [← iu]; unfold uOf; rw [show w / 536870912 % 2 = U by omega]
    have ev : vOf w = v := by rw [← iv]; unfold vOf; rw [show w / 268435456 % 2 = V by omega]
    have em : ext24 w = imm := by unfold ext24; split <;> omega
    refine ⟨?_, ?_⟩
    · unfold decI
      rw [ef, if_neg (by omega), if_neg (by omega), if_neg (by omega), eu, if_pos rfl, ev, show aOf w = a by unfold aOf; omega, em]
    · unfold decOk
      rw [ef, if_neg (by omega), if_pos rfl, eu]; rfl
  · have hU1 : U = 0 := by rw [hU]; rfl
    have e : encW ⟨3, false, v, a, 0, c, 0, imm⟩ = 3221225472 + U * 536870912 + V * 268435456 + a * 16777216 + imm * 16 + c := by rw [hU, hV]; simp [encW]; omega
    rw [e]
    generalize hw : 3221225472 + U * 536870912 + V * 268435456 + a * 16777216 + imm * 16 + c = w
    have ef : fOf w = 3 := by unfold fOf; omega
    have eu : uOf w = false := by rw [← iu]; unfold uOf; rw [show w / 536870912 % 2 = U by omega]
    have ev : vOf w = v := by rw [← iv]; unfold vOf; rw [show w / 268435456 % 2 = V by omega]
    refine ⟨?_, ?_⟩
    · unfold decI
      rw [ef, if_neg (by omega), if_neg (by omega), if_neg (by omega), eu, if_neg (by simp), ev, show aOf w = a by unfold aOf; omega, show w / 16 % 16 = imm by omega, show cOf w = c by unfold cOf; omega]
    · unfold decOk
      rw [ef, if_neg (by omega), if_pos rfl, eu, Bool.false_or, beq_iff_eq]; omega
theorem orK4 (x y : Int) (h0 : 0 ≤ x) (h1 : x < 4294967296) (hx : x % 16 = 0) (h2 : 0 ≤ y) (hy : y < 16) : bits .or .u32 x y = x + y := or_apart 4 x y h0 h1 (by simpa using hx) h2 (by simpa using hy) (by omega)
theorem orK8 (x y : Int) (h0 : 0 ≤ x) (h1 : x < 4294967296) (hx : x % 256 = 0) (h2 : 0 ≤ y) (hy : y < 256) : bits .or .u32 x y = x + y := or_apart 8 x y h0 h1 (by simpa using hx) h2 (by simpa using hy) (by omega)
theorem orK16 (x y : Int) (h0 : 0 ≤ x) (h1 : x < 4294967296) (hx : x % 65536 = 0) (h2 : 0 ≤ y) (hy : y < 65536) : bits .or .u32 x y = x + y := or_apart 16 x y h0 h1 (by simpa using hx) h2 (by simpa using hy) (by omega)
theorem orK20 (x y : Int) (h0 : 0 ≤ x) (h1 : x < 4294967296) (hx : x % 1048576 = 0) (h2 : 0 ≤ y) (hy : y < 1048576) : bits .or .u32 x y = x + y := or_apart 20 x y h0 h1 (by simpa using hx) h2 (by simpa using hy) (by omega)
theorem orK24 (x y : Int) (h0 : 0 ≤ x) (h1 : x < 4294967296) (hx : x % 16777216 = 0) (h2 : 0 ≤ y) (hy : y < 16777216) : bits .or .u32 x y = x + y := or_apart 24 x y h0 h1 (by simpa using hx) h2 (by simpa using hy) (by omega)
theorem orK28 (x y : Int) (h0 : 0 ≤ x) (h1 : x < 4294967296) (hx : x % 268435456 = 0) (h2 : 0 ≤ y) (hy : y < 268435456) : bits .or .u32 x y = x + y := or_apart 28 x y h0 h1 (by simpa using hx) h2 (by simpa using hy) (by omega)
theorem orK29 (x y : Int) (h0 : 0 ≤ x) (h1 : x < 4294967296) (hx : x % 536870912 = 0) (h2 : 0 ≤ y) (hy : y < 536870912) : bits .or .u32 x y = x + y := or_apart 29 x y h0 h1 (by simpa using hx) h2 (by simpa using hy) (by omega)
theorem orK30 (x y : Int) (h0 : 0 ≤ x) (h1 : x < 4294967296) (hx : x % 1073741824 = 0) (h2 : 0 ≤ y) (hy : y < 1073741824) : bits .or .u32 x y = x + y := or_apart 30 x y h0 h1 (by simpa using hx) h2 (by simpa using hy) (by omega)
theorem or_head (F U V A : Int) (hF : F = 0 ∨ F = 1073741824 ∨ F = 2147483648 ∨ F = 3221225472) (hU : 0 ≤ U ∧ U ≤ 1) (hV : 0 ≤ V ∧ V ≤ 1) (hA : 0 ≤ A ∧ A < 16) :
    bits .or .u32 (bits .or .u32 (bits .or .u32 F (U * 536870912)) (V * 268435456)) (A * 16777216) = F + U * 536870912 + V * 268435456 + A * 16777216 := by
  rw [orK30 F (U * 536870912) (by omega) (by omega) (by omega) (by omega) (by omega), orK29 _ (V * 268435456) (by omega) (by omega) (by omega) (by omega) (by omega), orK28 _ (A * 16777216) (by omega) (by omega) (by omega) (by omega) (by omega)]
theorem or_0 (F U V A B O C : Int) (hF : F = 0 ∨ F = 1073741824) (hU : 0 ≤ U ∧ U ≤ 1) (hV : 0 ≤ V ∧ V ≤ 1) (hA : 0 ≤ A ∧ A < 16) (hB : 0 ≤ B ∧ B < 16) (hO : 0 ≤ O ∧ O < 16) (hC : 0 ≤ C ∧ C < 65536) :
    bits .or .u32 (bits .or .u32 (bits .or .u32 (bits .or .u32 (bits .or .u32 (bits .or .u32 F (U * 536870912)) (V * 268435456)) (A * 16777216)) (B * 1048576)) (O * 65536)) C = F + U * 536870912 + V * 268435456 + A * 16777216 + B * 1048576 + O * 65536 + C := by
  rw [or_head F U V A (by omega) hU hV hA, orK24 _ (B * 1048576) (by omega) (by omega) (by omega) (by omega) (by omega), orK20 _ (O * 65536) (by omega) (by omega) (by omega) (by omega) (by omega), orK16 _ C (by omega) (by omega) (by omega) (by omega) (by omega)]
theorem or_2 (F U V A B M : Int) (hF : F = 2147483648) (hU : 0 ≤ U ∧ U ≤ 1) (hV : 0 ≤ V ∧ V ≤ 1) (hA : 0 ≤ A ∧ A < 16) (hB : 0 ≤ B ∧ B < 16) (hM : 0 ≤ M ∧ M < 1048576) :
    bits .or .u32 (bits .or .u32 (bits .or .u32 (bits .or .u32 (bits .or .u32 F (U * 536870912)) (V * 268435456)) (A * 16777216)) (B * 1048576)) M = F + U * 536870912 + V * 268435456 + A * 16777216 + B * 1048576 + M := by
  rw [or_head F U V A (by omega) hU hV hA, orK24 _ (B * 1048576) (by omega) (by omega) (by omega) (by omega) (by omega), orK20 _ M (by omega) (by omega) (by omega) (by omega) (by omega)]
theorem or_3 (F U V A M : Int) (hF : F = 3221225472) (hU : 0 ≤ U ∧ U ≤ 1) (hV : 0 ≤ V ∧ V ≤ 1) (hA : 0 ≤ A ∧ A < 16) (hM : 0 ≤ M ∧ M < 16777216) :
    bits .or .u32 (bits .or .u32 (bits .or .u32 (bits .or .u32 F (U * 536870912)) (V * 268435456)) (A * 16777216)) M = F + U * 536870912 + V * 268435456 + A * 16777216 + M := by
  rw [or_head F U V A (by omega) hU hV hA, orK24 _ M (by omega) (by omega) (by omega) (by omega) (by omega)]
theorem or_4 (F U V A M C : Int) (hF : F = 3221225472) (hU : 0 ≤ U ∧ U ≤ 1) (hV : 0 ≤ V ∧ V ≤ 1) (hA : 0 ≤ A ∧ A < 16) (hM : 0 ≤ M ∧ M < 16) (hC : 0 ≤ C ∧ C < 16) :
    bits .or .u32 (bits .or .u32 (bits .or .u32 (bits .or .u32 (bits .or .u32 F (U * 536870912)) (V * 268435456)) (A * 16777216)) (M * 16)) C = F + U * 536870912 + V * 268435456 + A * 16777216 + M * 16 + C := by
  rw [or_head F U V A (by omega) hU hV hA, orK8 _ (M * 16) (by omega) (by omega) (by omega) (by omega) (by omega), orK4 _ C (by omega) (by omega) (by omega) (by omega) (by omega)]
theorem encW_0 (u v : Bool) (a b c op : Int) : encW ⟨0, u, v, a, b, c, op, 0⟩ = 0 + num u * 536870912 + num v * 268435456 + a * 16777216 + b * 1048576 + op * 65536 + c := by simp [encW]; omega
theorem encW_1 (u v : Bool) (a b op m : Int) : encW ⟨1, u, v, a, b, 0, op, m⟩ = 1073741824 + num u * 536870912 + num v * 268435456 + a * 16777216 + b * 1048576 + op * 65536 + m := by simp [encW]; omega
theorem encW_2 (u v : Bool) (a b m : Int) : encW ⟨2, u, v, a, b, 0, 0, m⟩ = 2147483648 + num u * 536870912 + num v * 268435456 + a * 16777216 + b * 1048576 + m % 1048576 := by simp [encW]; omega
theorem encW_3 (v : Bool) (a m : Int) : encW ⟨3, true, v, a, 0, 0, 0, m⟩ = 3221225472 + num true * 536870912 + num v * 268435456 + a * 16777216 + m % 16777216 := by simp [encW]
theorem encW_4 (v : Bool) (a c m : Int) : encW ⟨3, false, v, a, 0, c, 0, m⟩ = 3221225472 + num false * 536870912 + num v * 268435456 + a * 16777216 + m * 16 + c := by simp [encW]; omega
end Go.Waf
