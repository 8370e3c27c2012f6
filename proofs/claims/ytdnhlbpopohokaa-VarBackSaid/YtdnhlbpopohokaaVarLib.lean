/- Numbers of few bytes, in plain Lean. -/
import Derived.WalkKit
namespace Go.Waf
open Go.RowKit
theorem or128_nat : ∀ a < 256, a ||| 128 = a % 128 + 128 := by decide +kernel
theorem or128 (x : Int) : bits .or .u8 (x % 256) 128 = x % 128 + 128 := by
  obtain ⟨a, ha⟩ := Int.eq_ofNat_of_zero_le (show 0 ≤ x % 256 by omega)
  have h1 : a < 256 := by omega
  have h := u8_or_nat a 128 h1 (by decide)
  rw [ha]
  have h3 := or128_nat a h1
  rw [h3] at h
  have : ((128 : Nat) : Int) = 128 := rfl
  rw [this] at h
  rw [h]; omega
def putVar (v : Nat) : List Int := if v < 128 then [(v : Int)] else ((v % 128 + 128 : Nat) : Int) :: putVar (v / 128)
termination_by v
theorem putVar_lt (v : Nat) (h : v < 128) : putVar v = [(v : Int)] := by rw [putVar, if_pos h]
theorem putVar_ge (v : Nat) (h : ¬ v < 128) : putVar v = ((v % 128 + 128 : Nat) : Int) :: putVar (v / 128) := by rw [putVar, if_neg h]
theorem putVar_pos (v : Nat) : 1 ≤ (putVar v).length := by rw [putVar]; split <;> simp
theorem putVar_len_of (k : Nat) : ∀ v, v < 128 ^ (k + 1) → (putVar v).length ≤ k + 1 := by
  induction k with
  | zero => intro v hv; rw [putVar_lt v (by omega)]; simp
  | succ k ih =>
    intro v hv
    by_cases h : v < 128
    · rw [putVar_lt v h]; simp
    · rw [putVar_ge v h, List.length_cons]
      have := ih (v / 128) (by rw [Nat.div_lt_iff_lt_mul (by decide)]; rw [Nat.pow_succ] at hv; exact hv)
      omega
theorem putVar_len (v : Nat) (h : v < 18446744073709551616) : (putVar v).length ≤ 10 := by
  refine putVar_len_of 9 v ?_
  have : (128 : Nat) ^ (9 + 1) = 1180591620717411303424 := by decide +kernel
  omega

/-- A number's bytes, read from place i on, v so far. -/
def readFrom (i : Nat) (v : Nat) : List Int → Option (Nat × Nat)
  | [] => none
  | c :: cs => if 10 ≤ i ∨ (i = 9 ∧ 1 < c) ∨ (0 < i ∧ c = 0) then none else
    if c < 128 then some (v + (c % 128).toNat * 128 ^ i, i + 1) else readFrom (i + 1) (v + (c % 128).toNat * 128 ^ i) cs
def readVar (xs : List Int) : Option (Nat × Nat) := readFrom 0 0 xs
/-- What Read answers. -/
def readRes : Option (Nat × Nat) → Nat × Nat × Bool
  | some (u, k) => (u, k, true)
  | none => (0, 0, false)
def zig (v : Int) : Nat := if 0 ≤ v then (2 * v).toNat else (-2 * v - 1).toNat
def zag (u : Nat) : Int := if u % 2 = 0 then ((u / 2 : Nat) : Int) else -((u / 2 : Nat) : Int) - 1
theorem zag_zig (v : Int) : zag (zig v) = v := by
  unfold zig zag
  by_cases h : 0 ≤ v
  · rw [if_pos h, if_pos (by omega)]; omega
  · rw [if_neg h, if_neg (by omega)]; omega

theorem readFrom_putVar (more : List Int) : ∀ (k i v a : Nat), (putVar v).length ≤ k → i + k ≤ 10 → (0 < i → 0 < v) → (i + (putVar v).length = 10 → v < 2 * 128 ^ (9 - i)) → readFrom i a (putVar v ++ more) = some (a + v * 128 ^ i, i + (putVar v).length) := by
  intro k
  induction k with
  | zero => intro i v a h; have := putVar_pos v; omega
  | succ k ih =>
    intro i v a hk hi h0 h9
    by_cases h : v < 128
    · rw [putVar_lt v h] at h9 ⊢
      rw [List.singleton_append, readFrom, if_neg, if_pos (by omega)]
      · simp only [List.length_cons, List.length_nil]
        rw [show ((v : Int) % 128).toNat = v by omega]
      · rintro (h1 | ⟨h1, h2⟩ | ⟨h1, h2⟩)
        · omega
        · subst h1
          have := h9 (by simp)
          simp at this; omega
        · have := h0 h1; omega
    · have hpv := putVar_pos (v / 128)
      rw [putVar_ge v h] at hk h9 ⊢
      simp only [List.length_cons] at hk h9
      rw [List.cons_append, readFrom, if_neg, if_neg (by omega), ih (i + 1) (v / 128) _ (by omega) (by omega) (by omega)]
      · simp only [List.length_cons]
        rw [show (((v % 128 + 128 : Nat) : Int) % 128).toNat = v % 128 by omega]
        congr 2
        · rw [Nat.pow_succ, Nat.add_assoc, show v % 128 * 128 ^ i + v / 128 * (128 ^ i * 128) = v * 128 ^ i from ?_]
          have := Nat.mod_add_div v 128
          calc v % 128 * 128 ^ i + v / 128 * (128 ^ i * 128) = (v % 128 + 128 * (v / 128)) * 128 ^ i := by rw [Nat.add_mul, Nat.mul_comm (128 ^ i) 128, ← Nat.mul_assoc, Nat.mul_comm (v / 128) 128]
            _ = v * 128 ^ i := by rw [this]
        · omega
      · intro h10
        have h9' := h9 (by omega)
        rw [Nat.div_lt_iff_lt_mul (by decide)]
        have : 9 - i = (9 - (i + 1)) + 1 := by omega
        rw [this, Nat.pow_succ] at h9'
        omega
      · rintro (h1 | ⟨h1, h2⟩ | ⟨h1, h2⟩)
        · omega
        · omega
        · omega
theorem readVar_putVar (v : Nat) (hv : v < 18446744073709551616) (more : List Int) : readVar (putVar v ++ more) = some (v, (putVar v).length) := by
  have h := readFrom_putVar more 10 0 v 0 (putVar_len v hv) (by omega) (by omega) (fun _ => by
    have : (128 : Nat) ^ (9 - 0) = 9223372036854775808 := by decide +kernel
    omega)
  simpa [readVar] using h
theorem readFrom_le (i v : Nat) (xs : List Int) : ∀ u k, readFrom i v xs = some (u, k) → k ≤ i + xs.length ∧ i < k := by
  induction xs generalizing i v with
  | nil => intro u k h; simp [readFrom] at h
  | cons c cs ih =>
    intro u k h
    rw [readFrom] at h
    split at h
    · cases h
    · split at h
      · simp only [Option.some.injEq, Prod.mk.injEq] at h
        simp; omega
      · have := ih _ _ _ _ h
        simp; omega
theorem byte_bits (x y : Nat) (i : Nat) (hx : x < 128 ^ i) (hxl : x < 18446744073709551616) (hy : y * 128 ^ i < 18446744073709551616) : bits .or .u64 (x : Int) (((y * 128 ^ i : Nat) : Int)) = ((x + y * 128 ^ i : Nat) : Int) := by
  rw [u64_or_nat x _ hxl hy]
  congr 1
  have e : (128 : Nat) ^ i = 2 ^ (7 * i) := by rw [Nat.pow_mul]
  rw [e] at hx ⊢
  rw [Nat.or_comm, Nat.mul_comm, ← Nat.two_pow_add_eq_or_of_lt hx, Nat.add_comm]
theorem pow128 (i : Nat) (hi : i ≤ 9) : 128 ^ i ≤ 9223372036854775808 := by
  have h : (128 : Nat) ^ i ≤ 128 ^ 9 := Nat.pow_le_pow_right (by decide) hi
  have : (128 : Nat) ^ 9 = 9223372036854775808 := by decide +kernel
  omega
theorem step_lt (a : Nat) (c : Int) (i : Nat) (ha : a < 128 ^ i) (hi : i ≤ 9) (h0 : 0 ≤ c) (h1 : c ≤ 255) (h9 : i = 9 → c ≤ 1) : a + (c % 128).toNat * 128 ^ i < 128 ^ (i + 1) ∧ a + (c % 128).toNat * 128 ^ i < 18446744073709551616 := by
  have hm : (c % 128).toNat ≤ 127 := by omega
  have h2 : (c % 128).toNat * 128 ^ i ≤ 127 * 128 ^ i := Nat.mul_le_mul_right _ hm
  have hp := pow128 i hi
  have e : (128 : Nat) ^ (i + 1) = 128 ^ i * 128 := Nat.pow_succ ..
  refine ⟨by omega, ?_⟩
  by_cases h : i = 9
  · subst h
    have := h9 rfl
    have h3 : (c % 128).toNat * 128 ^ 9 ≤ 1 * 128 ^ 9 := Nat.mul_le_mul_right _ (by omega)
    omega
  · have hp8 : 128 ^ i ≤ 72057594037927936 := by
      have h : (128 : Nat) ^ i ≤ 128 ^ 8 := Nat.pow_le_pow_right (by decide) (by omega)
      have : (128 : Nat) ^ 8 = 72057594037927936 := by decide +kernel
      omega
    omega
theorem or_step (a : Nat) (c : Int) (i : Nat) (ha : a < 128 ^ i) (hi : i ≤ 9) (h0 : 0 ≤ c) (h1 : c ≤ 255) (h9 : i = 9 → c ≤ 1) : bits .or .u64 (a : Int) (IntKind.u64.wrap (c % 128 * 2 ^ (7 * i))) = ((a + (c % 128).toNat * 128 ^ i : Nat) : Int) := by
  have hs := step_lt a c i ha hi h0 h1 h9
  have hp := pow128 i hi
  rw [← byte_bits a (c % 128).toNat i ha (by omega) (by omega)]
  congr 1
  have e : (128 : Nat) ^ i = 2 ^ (7 * i) := by rw [Nat.pow_mul]
  have e2 : c % 128 * 2 ^ (7 * i) = (((c % 128).toNat * 128 ^ i : Nat) : Int) := by
    rw [e, Int.natCast_mul, Int.toNat_of_nonneg (by omega)]
    simp
  rw [e2]
  exact IntWalk.u64_in _ (by omega)
theorem three (i : Nat) (c : Int) (h : ¬ (10 ≤ i ∨ (i = 9 ∧ 1 < c) ∨ (0 < i ∧ c = 0))) : (i < 1 ∧ ((i : Int) == 9) = false) ∨ (1 ≤ i ∧ ((i : Int) == 9) = false ∧ (c == 0) = false) ∨ (1 ≤ i ∧ ((i : Int) == 9) = true ∧ c ≤ 1 ∧ (c == 0) = false) := by
  by_cases h1 : i < 1
  · exact .inl ⟨h1, beq_eq_false_iff_ne.2 (by omega)⟩
  · by_cases h2 : i = 9
    · exact .inr (.inr ⟨by omega, beq_iff_eq.2 (by omega), by omega, beq_eq_false_iff_ne.2 (by omega)⟩)
    · exact .inr (.inl ⟨by omega, beq_eq_false_iff_ne.2 (by omega), beq_eq_false_iff_ne.2 (by omega)⟩)
theorem xor_u64_zero (x : Int) (h0 : 0 ≤ x) (h1 : x < 18446744073709551616) : bits .xor .u64 x 0 = x := by
  obtain ⟨a, rfl⟩ := Int.eq_ofNat_of_zero_le h0
  have h := u64_xor_nat a 0 (by omega) (by decide)
  simpa using h
theorem nat_xor_ones (a : Nat) (h : a < 18446744073709551616) : a ^^^ 18446744073709551615 = 18446744073709551615 - a := by
  have e : (18446744073709551615 : Nat) = 2 ^ 64 - 1 := by decide +kernel
  have h' : a < 2 ^ 64 := by
    have : (2 : Nat) ^ 64 = 18446744073709551616 := by decide +kernel
    omega
  have := BitVec.toNat_not (x := BitVec.ofNat 64 a)
  rw [← BitVec.xor_allOnes, BitVec.toNat_xor, BitVec.toNat_ofNat, BitVec.toNat_allOnes, Nat.mod_eq_of_lt h'] at this
  rw [e, this]
theorem xor_u64_ones (x : Int) (h0 : 0 ≤ x) (h1 : x < 18446744073709551616) : bits .xor .u64 x 18446744073709551615 = 18446744073709551615 - x := by
  obtain ⟨a, rfl⟩ := Int.eq_ofNat_of_zero_le h0
  have h := u64_xor_nat a 18446744073709551615 (by omega) (by decide +kernel)
  rw [nat_xor_ones a (by omega)] at h
  have e : (((18446744073709551615 : Nat)) : Int) = 18446744073709551615 := rfl
  rw [e] at h
  rw [h]; omega
theorem i64_of (x : BitVec 64) : IntKind.i64.wrap (x.toNat : Int) = x.toInt := by
  rw [IntKind.wrap_i64, BitVec.toInt_eq_toNat_cond]
  have h := x.isLt
  have e : ((2 ^ 64 : Nat) : Int) = 18446744073709551616 := by decide +kernel
  rw [e]
  have e2 : (2 : Nat) ^ 64 = 18446744073709551616 := by decide +kernel
  rw [e2] at h ⊢
  split <;> omega
theorem ofInt64 (x : Int) (h0 : -9223372036854775808 ≤ x) (h1 : x ≤ 9223372036854775807) : (BitVec.ofInt 64 x).toInt = x := by
  rw [BitVec.toInt_ofInt, Int.bmod_eq_of_le]
  · have e : ((2 ^ 64 : Nat) : Int) = 18446744073709551616 := by decide +kernel
    rw [e]; omega
  · have e : ((2 ^ 64 : Nat) : Int) = 18446744073709551616 := by decide +kernel
    rw [e]; omega
theorem xor_i64_zero (x : Int) (h0 : -9223372036854775808 ≤ x) (h1 : x ≤ 9223372036854775807) : bits .xor .i64 x 0 = x := by
  show IntKind.i64.wrap ((BitVec.ofInt 64 x ^^^ BitVec.ofInt 64 0).toNat : Int) = _
  rw [i64_of, show BitVec.ofInt 64 0 = 0#64 from rfl, BitVec.xor_zero, ofInt64 x h0 h1]
theorem not_toInt (y : BitVec 64) : (~~~y).toInt = -y.toInt - 1 := by
  have h := y.isLt
  have e : ((2 ^ 64 : Nat) : Int) = 18446744073709551616 := by decide +kernel
  have e2 : (2 : Nat) ^ 64 = 18446744073709551616 := by decide +kernel
  rw [BitVec.toInt_eq_toNat_cond, BitVec.toInt_eq_toNat_cond, BitVec.toNat_not, e, e2]
  rw [e2] at h
  split <;> split <;> omega
theorem xor_i64_ones (x : Int) (h0 : -9223372036854775808 ≤ x) (h1 : x ≤ 9223372036854775807) : bits .xor .i64 x (-1) = -x - 1 := by
  show IntKind.i64.wrap ((BitVec.ofInt 64 x ^^^ BitVec.ofInt 64 (-1)).toNat : Int) = _
  rw [i64_of, show BitVec.ofInt 64 (-1) = BitVec.allOnes 64 from by decide +kernel, BitVec.xor_allOnes, not_toInt, ofInt64 x h0 h1]
theorem or1_u64 (x : Int) (h0 : 0 ≤ x) (h1 : x < 9223372036854775808) : bits .or .u64 (x * 2) 1 = x * 2 + 1 := by
  obtain ⟨a, rfl⟩ := Int.eq_ofNat_of_zero_le h0
  have h := u64_or_nat (a * 2) 1 (by omega) (by decide)
  rw [show a * 2 ||| 1 = a * 2 + 1 from by rw [nat_join 1 (a * 2) 1 (by omega) (by decide)]] at h
  have e : ((a * 2 : Nat) : Int) = (a : Int) * 2 := by omega
  have e1 : ((1 : Nat) : Int) = 1 := rfl
  rw [e, e1] at h
  rw [h]; omega
theorem zig_pos (v : Int) (h : 0 ≤ v) : ((zig v : Nat) : Int) = v * 2 := by unfold zig; rw [if_pos h]; omega
theorem zig_neg (v : Int) (h : v < 0) : ((zig v : Nat) : Int) = -(v + 1) * 2 + 1 := by unfold zig; rw [if_neg (by omega)]; omega
theorem zig_lt (v : Int) (h0 : -9223372036854775808 ≤ v) (h1 : v ≤ 9223372036854775807) : zig v < 18446744073709551616 := by unfold zig; split <;> omega
theorem zig_xor_pos (v : Int) (h : 0 ≤ v) (h1 : v ≤ 9223372036854775807) : bits .xor .u64 (v * 2) (v / 9223372036854775808) = ((zig v : Nat) : Int) := by
  rw [show v / 9223372036854775808 = 0 by omega, xor_u64_zero _ (by omega) (by omega), zig_pos v h]
theorem zig_xor_neg (v : Int) (h : v < 0) (h1 : -9223372036854775808 ≤ v) : bits .xor .u64 (IntKind.u64.wrap (IntKind.u64.wrap v * 2)) (IntKind.u64.wrap (v / 9223372036854775808)) = ((zig v : Nat) : Int) := by
  have e : ∀ n, IntKind.u64.wrap n = n % 18446744073709551616 := fun n => by simp [IntKind.wrap, IntKind.bits, IntKind.signed]
  rw [e, e, e, show v / 9223372036854775808 = -1 by omega, show (-1 : Int) % 18446744073709551616 = 18446744073709551615 from by decide +kernel, xor_u64_ones _ (by omega) (by omega), zig_neg v h]
  omega
theorem zag_xor (u : Nat) (h : u < 18446744073709551616) : bits .xor .i64 ((u : Int) / 2) (-((u : Int) % 2)) = zag u := by
  unfold zag
  by_cases h2 : u % 2 = 0
  · rw [if_pos h2, show -((u : Int) % 2) = 0 by omega, xor_i64_zero _ (by omega) (by omega)]; omega
  · rw [if_neg h2, show -((u : Int) % 2) = -1 by omega, xor_i64_ones _ (by omega) (by omega)]; omega
theorem readFrom_lt (xs : List Int) (hb : ∀ x ∈ xs, 0 ≤ x ∧ x ≤ 255) : ∀ (i a : Nat), a < 128 ^ i → a < 18446744073709551616 → ∀ u k, readFrom i a xs = some (u, k) → u < 18446744073709551616 := by
  induction xs with
  | nil => intro i a _ _ u k h; simp [readFrom] at h
  | cons c cs ih =>
    intro i a ha ha2 u k h
    rw [readFrom] at h
    split at h
    · cases h
    · rename_i hbad
      have hc := hb c (by simp)
      have hs := step_lt a c i ha (by omega) hc.1 hc.2 (by omega)
      split at h
      · simp only [Option.some.injEq, Prod.mk.injEq] at h
        rw [← h.1]; exact hs.2
      · exact ih (fun x hx => hb x (by simp [hx])) _ _ hs.1 hs.2 u k h
theorem readVar_lt (xs : List Int) (hb : ∀ x ∈ xs, 0 ≤ x ∧ x ≤ 255) (u k : Nat) (t : Bool) (h : readRes (readVar xs) = (u, k, t)) : u < 18446744073709551616 := by
  cases hr : readVar xs with
  | none => rw [hr] at h; simp only [readRes, Prod.mk.injEq] at h; omega
  | some p =>
    obtain ⟨u', k'⟩ := p
    rw [hr] at h
    simp only [readRes, Prod.mk.injEq] at h
    rw [← h.1]
    exact readFrom_lt xs hb 0 0 (by simp) (by omega) u' k' hr
theorem putVar_bytes (v : Nat) : ∀ x ∈ putVar v, 0 ≤ x ∧ x ≤ 255 := by
  induction v using Nat.strongRecOn with
  | ind v ih =>
    intro x hx
    by_cases h : v < 128
    · rw [putVar_lt v h] at hx; simp at hx; omega
    · rw [putVar_ge v h, List.mem_cons] at hx
      rcases hx with rfl | hx
      · omega
      · exact ih (v / 128) (by omega) x hx
end Go.Waf
