/- Bits and bytes, in plain Lean. -/
import Derived.WalkKit
namespace Go.Waf
open Go.RowKit
def b2i (b : Bool) : Int := if b then 1 else 0
def byteAt (bs : List Bool) (i : Nat) : Int :=
  128 * b2i (bs.getD (8 * i) false) + 64 * b2i (bs.getD (8 * i + 1) false) + 32 * b2i (bs.getD (8 * i + 2) false) + 16 * b2i (bs.getD (8 * i + 3) false) +
  8 * b2i (bs.getD (8 * i + 4) false) + 4 * b2i (bs.getD (8 * i + 5) false) + 2 * b2i (bs.getD (8 * i + 6) false) + b2i (bs.getD (8 * i + 7) false)
def packTo (bs : List Bool) (m : Nat) : List Int := (List.range m).map (byteAt bs)
def pack (bs : List Bool) : List Int := packTo bs ((bs.length + 7) / 8)
theorem b2i_le (b : Bool) : 0 ≤ b2i b ∧ b2i b ≤ 1 := by cases b <;> simp [b2i]
theorem byteAt_le (bs : List Bool) (i : Nat) : 0 ≤ byteAt bs i ∧ byteAt bs i ≤ 255 := by
  unfold byteAt
  have h := fun j => b2i_le (bs.getD j false)
  have h0 := h (8 * i); have h1 := h (8 * i + 1); have h2 := h (8 * i + 2); have h3 := h (8 * i + 3); have h4 := h (8 * i + 4); have h5 := h (8 * i + 5); have h6 := h (8 * i + 6); have h7 := h (8 * i + 7)
  omega
theorem packTo_length (bs : List Bool) (m : Nat) : (packTo bs m).length = m := by simp [packTo]
theorem packTo_succ (bs : List Bool) (m : Nat) : packTo bs (m + 1) = packTo bs m ++ [byteAt bs m] := by simp [packTo, List.range_succ]
theorem packTo_bytes (bs : List Bool) (m : Nat) : ∀ x ∈ packTo bs m, 0 ≤ x ∧ x ≤ 255 := by
  intro x hx
  obtain ⟨i, _, rfl⟩ := List.mem_map.1 hx
  exact byteAt_le bs i
theorem getD_past (bs : List Bool) (j : Nat) (h : bs.length ≤ j) : bs.getD j false = false := by simp [List.getD, List.getElem?_eq_none h]
theorem getD_snoc (bs : List Bool) (b : Bool) (j : Nat) : (bs ++ [b]).getD j false = if j = bs.length then b else bs.getD j false := by
  rcases Nat.lt_trichotomy j bs.length with h | h | h
  · rw [if_neg (by omega)]; simp [List.getD, List.getElem?_append_left h]
  · subst h; simp [List.getD]
  · rw [if_neg (by omega), getD_past _ _ (by simp; omega), getD_past _ _ (by omega)]
theorem byteAt_past (bs : List Bool) (i : Nat) (h : bs.length ≤ 8 * i) : byteAt bs i = 0 := by
  unfold byteAt
  rw [getD_past _ _ h, getD_past _ (8 * i + 1) (by omega), getD_past _ (8 * i + 2) (by omega), getD_past _ (8 * i + 3) (by omega), getD_past _ (8 * i + 4) (by omega), getD_past _ (8 * i + 5) (by omega), getD_past _ (8 * i + 6) (by omega), getD_past _ (8 * i + 7) (by omega)]
  rfl
theorem byteAt_other (bs : List Bool) (b : Bool) (i : Nat) (h : i ≠ bs.length / 8) : byteAt (bs ++ [b]) i = byteAt bs i := by
  unfold byteAt
  simp only [getD_snoc]
  rw [if_neg (by omega), if_neg (by omega), if_neg (by omega), if_neg (by omega), if_neg (by omega), if_neg (by omega), if_neg (by omega), if_neg (by omega)]
/-- What a bit adds to its byte, and that its place was free. -/
theorem byteAt_snoc (bs : List Bool) (b : Bool) : byteAt (bs ++ [b]) (bs.length / 8) = byteAt bs (bs.length / 8) + b2i b * 2 ^ (7 - bs.length % 8) ∧ byteAt bs (bs.length / 8) % 2 ^ (8 - bs.length % 8) = 0 := by
  obtain ⟨q, r, hq, hr, hl⟩ : ∃ q r, q = bs.length / 8 ∧ r = bs.length % 8 ∧ bs.length = 8 * q + r := ⟨_, _, rfl, rfl, by omega⟩
  rw [← hq, ← hr]
  have hr8 : r < 8 := by omega
  have hp : ∀ j, 8 * q + r ≤ j → bs.getD j false = false := fun j hj => getD_past bs j (by omega)
  have hb := fun j => b2i_le (bs.getD j false)
  have h0 := hb (8 * q); have h1 := hb (8 * q + 1); have h2 := hb (8 * q + 2); have h3 := hb (8 * q + 3); have h4 := hb (8 * q + 4); have h5 := hb (8 * q + 5); have h6 := hb (8 * q + 6)
  unfold byteAt
  simp only [getD_snoc, hl]
  rcases (by omega : r = 0 ∨ r = 1 ∨ r = 2 ∨ r = 3 ∨ r = 4 ∨ r = 5 ∨ r = 6 ∨ r = 7) with rfl | rfl | rfl | rfl | rfl | rfl | rfl | rfl
  all_goals
    first
      | rw [hp (8 * q) (by omega)]
      | skip
    first
      | rw [hp (8 * q + 1) (by omega)]
      | skip
    first
      | rw [hp (8 * q + 2) (by omega)]
      | skip
    first
      | rw [hp (8 * q + 3) (by omega)]
      | skip
    first
      | rw [hp (8 * q + 4) (by omega)]
      | skip
    first
      | rw [hp (8 * q + 5) (by omega)]
      | skip
    first
      | rw [hp (8 * q + 6) (by omega)]
      | skip
    rw [hp (8 * q + 7) (by omega)]
    have hf : b2i false = 0 := rfl
    simp only [hf, Nat.add_zero, Nat.add_right_cancel_iff, Nat.add_left_cancel_iff, Nat.left_eq_add, Nat.add_eq_left]
    simp
    try omega

theorem or_free (x : Int) (k : Nat) (b : Bool) (hk : k ≤ 7) (h0 : 0 ≤ x) (h1 : x ≤ 255) (hx : x % 2 ^ (k + 1) = 0) : bits .or .u8 x (b2i b * 2 ^ k) = x + b2i b * 2 ^ k := by
  have hp : (2 : Int) ^ k ≤ 128 := by
    have h : (2 : Nat) ^ k ≤ 2 ^ 7 := Nat.pow_le_pow_right (by decide) hk
    have e : ((2 : Int) ^ k) = ((2 ^ k : Nat) : Int) := by simp
    rw [e]; omega
  have hp0 : (0 : Int) < 2 ^ k := Int.pow_pos (by decide)
  have hb := b2i_le b
  have hy0 : 0 ≤ b2i b * 2 ^ k := Int.mul_nonneg hb.1 (by omega)
  have hy1 : b2i b * 2 ^ k ≤ 2 ^ k := by cases b <;> simp [b2i]; omega
  exact bits_join .u8 8 (by decide) wraps_u8 (k + 1) x _ h0 hx (by omega) hy0 (by rw [Int.pow_succ]; omega) (by omega)
theorem packTo_set (bs : List Bool) (b : Bool) (m : Nat) : (packTo bs m).set (bs.length / 8) (byteAt bs (bs.length / 8) + b2i b * 2 ^ (7 - bs.length % 8)) = packTo (bs ++ [b]) m := by
  rw [← (byteAt_snoc bs b).1]
  apply List.ext_getElem?
  intro i
  simp only [packTo, List.getElem?_set, List.length_map, List.length_range, List.getElem?_map]
  by_cases h : bs.length / 8 = i
  · rw [if_pos h]
    by_cases hm : i < m
    · rw [if_pos (by omega), List.getElem?_range hm]; simp [h]
    · rw [if_neg (by omega), List.getElem?_eq_none (by simp; omega)]; rfl
  · rw [if_neg h]
    by_cases hm : i < m
    · rw [List.getElem?_range hm]; simp only [Option.map_some]; rw [byteAt_other bs b i (fun e => h e.symm)]
    · rw [List.getElem?_eq_none (by simp; omega)]; rfl
theorem packTo_false (bs : List Bool) (m : Nat) : packTo (bs ++ [false]) m = packTo bs m := by
  apply List.map_congr_left
  intro i _
  by_cases h : i = bs.length / 8
  · subst h
    rw [(byteAt_snoc bs false).1]; simp [b2i]
  · exact byteAt_other bs false i h
theorem packTo_getD (bs : List Bool) (m i : Nat) (h : i < m) : (packTo bs m).getD i 0 = byteAt bs i := by simp [packTo, List.getD, List.getElem?_range h]

/-- The n lowest bits of v, the highest first. -/
def bitsN (v : Nat) (n : Nat) : List Bool := (List.range n).map fun j => v / 2 ^ (n - 1 - j) % 2 == 1
theorem bitsN_length (v n : Nat) : (bitsN v n).length = n := by simp [bitsN]
theorem bitsN_get (v n j : Nat) (h : j < n) : (bitsN v n)[j]? = some (v / 2 ^ (n - 1 - j) % 2 == 1) := by simp [bitsN, List.getElem?_range h]
theorem take_bitsN (v n j : Nat) (h : j < n) : (bitsN v n).take (j + 1) = (bitsN v n).take j ++ [v / 2 ^ (n - 1 - j) % 2 == 1] := by
  rw [List.take_add_one, bitsN_get v n j h]; rfl
def number (l : List Bool) : Nat := l.foldl (fun a b => 2 * a + (if b then 1 else 0)) 0
theorem number_snoc (l : List Bool) (b : Bool) : number (l ++ [b]) = 2 * number l + (if b then 1 else 0) := by simp [number]
theorem number_aux (l : List Bool) : ∀ a : Nat, l.foldl (fun a b => 2 * a + (if b then 1 else 0)) a + 1 ≤ (a + 1) * 2 ^ l.length := by
  induction l with
  | nil => intro a; simp
  | cons b l ih =>
    intro a
    have h := ih (2 * a + (if b then 1 else 0))
    rw [List.foldl_cons, List.length_cons, Nat.pow_succ]
    have h2 : (2 * a + (if b then 1 else 0) + 1) * 2 ^ l.length ≤ (a + 1) * (2 ^ l.length * 2) := by
      rw [Nat.mul_comm (2 ^ l.length) 2, ← Nat.mul_assoc]
      exact Nat.mul_le_mul_right _ (by split <;> omega)
    omega
theorem number_lt (l : List Bool) : number l < 2 ^ l.length := by
  have := number_aux l 0
  simp only [Nat.zero_add, Nat.one_mul] at this
  exact this
/-- The i-th bit of bytes. -/
def bitOf (xs : List Int) (i : Nat) : Bool := xs.getD (i / 8) 0 / 2 ^ (7 - i % 8) % 2 == 1
def unpack (xs : List Int) : List Bool := (List.range (8 * xs.length)).map (bitOf xs)
theorem unpack_length (xs : List Int) : (unpack xs).length = 8 * xs.length := by simp [unpack]
theorem unpack_get (xs : List Int) (i : Nat) (h : i < 8 * xs.length) : (unpack xs)[i]? = some (bitOf xs i) := by simp [unpack, List.getElem?_range h]
theorem bitOf_pack (bs : List Bool) (m i : Nat) (h : i < 8 * m) : bitOf (packTo bs m) i = bs.getD i false := by
  unfold bitOf
  rw [packTo_getD bs m _ (by omega)]
  obtain ⟨q, r, hq, hr, hi⟩ : ∃ q r, q = i / 8 ∧ r = i % 8 ∧ i = 8 * q + r := ⟨_, _, rfl, rfl, by omega⟩
  rw [← hq, ← hr, hi]
  have hr8 : r < 8 := by omega
  have hb := fun j => b2i_le (bs.getD j false)
  have h0 := hb (8 * q); have h1 := hb (8 * q + 1); have h2 := hb (8 * q + 2); have h3 := hb (8 * q + 3); have h4 := hb (8 * q + 4); have h5 := hb (8 * q + 5); have h6 := hb (8 * q + 6); have h7 := hb (8 * q + 7)
  have key : ∀ b : Bool, (b2i b == 1) = b := by intro b; cases b <;> rfl
  have fin : ∀ (x : Int) (b : Bool), x = b2i b → (x == 1) = b := by intro x b h; rw [h, key]
  unfold byteAt
  rcases (by omega : r = 0 ∨ r = 1 ∨ r = 2 ∨ r = 3 ∨ r = 4 ∨ r = 5 ∨ r = 6 ∨ r = 7) with rfl | rfl | rfl | rfl | rfl | rfl | rfl | rfl
  all_goals
    apply fin
    simp only [Nat.add_zero, Nat.sub_zero, Nat.reduceSub, Nat.sub_self, Int.reducePow]
    omega
end Go.Waf
