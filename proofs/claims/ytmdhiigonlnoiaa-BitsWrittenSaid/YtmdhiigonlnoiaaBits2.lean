/- Contracts of package bits, the rest, and of the references. -/
import Derived.Test.YtmdhiigonlnoiaaBits
namespace Go.Proofs.Ytmdhiigonlnoiaa
open Go.RowKit Go.Waf
set_option maxRecDepth 100000
set_option linter.unusedVariables false
attribute [local go_sem] mask1_u64 mask1_u8

theorem newWriter_any (w : World) : Calls Try.prog 16 #[] w fun e w' => e = .returned (.pointer (some ⟨w.heap.size, 0, none⟩)) ∧ w' = w.alloc (.cells #[.slice none 0 0, .int .i64 0] 96) := by
  go_enter Try.func16, Try.ntmps16
  go_wp2_with fail
  go_ret
  exact ⟨rfl, rfl⟩
theorem wr_new (w : World) (B : Nat) (hB : B ≤ w.heap.size) : WrAt (w.alloc (.cells #[.slice none 0 0, .int .i64 0] 96)) B w.heap.size (.slice none 0 0) [] :=
  ⟨heap_alloc_new w _, World.ownsRow_nil _ _ _ _, hB, by simp [Value.ownBlock]⟩
theorem len_any (w : World) (B g : Nat) (v : Value) (bs : List Bool) (h : WrAt w B g v bs) : Calls Try.prog 19 #[.pointer (some ⟨g, 0, none⟩)] w fun e w' => e = .returned (.int .i64 (bs.length : Nat)) ∧ w = w' := by
  have c1 : w.cell? ⟨g, 1, none⟩ = some (.int .i64 (bs.length : Nat)) := by rw [cell_of_row w g 1 _ _ _ h.blk]; rfl
  go_enter Try.func19, Try.ntmps19
  go_wp2_with fail
  go_ret
  exact ⟨rfl, rfl⟩
theorem bytes_any (w : World) (B g : Nat) (v : Value) (bs : List Bool) (h : WrAt w B g v bs) (hl : bs.length ≤ 1000000) : Calls Try.prog 20 #[.pointer (some ⟨g, 0, none⟩)] w (OwnRet w.heap.size 5 1 ((bs.length + 7) / 8) (byt (pack bs)) w) := by
  have c0 : w.cell? ⟨g, 0, none⟩ = some v := by rw [cell_of_row w g 0 _ _ _ h.blk]; rfl
  have R := Lib.hid (rd_of_owns h.row)
  clear h
  go_enter Try.func20, Try.ntmps20
  go_wp2_with (at_builtin; refine app_own _ elemB rfl _ _ rfl w.heap.size (.slice none 0 0) 0 [] rfl (World.ownsRow_nil _ _ _ _) v _ _ rfl R.out (one_byt _) (by simp only [maxLen]; omega) (by omega) (Nat.le_refl _) ?_; intro p w1 ho hg)
  go_ret
  exact ⟨p, rfl, by simpa using ho, below_of_grown_none (Below.refl _ _) (Nat.le_refl _) hg⟩

/-- A reader at block g: its bytes, how many bits were read. -/
structure RdAt (w : World) (B g : Nat) (v : Value) (xs : List Int) (p : Nat) : Prop where
  blk : w.heap[g]? = some (.cells #[v, .int .i64 (p : Nat)] 98 (0, 0))
  row : w.ownsRow B 5 1 v xs.length (byt xs)
  base : B ≤ g
  ne : v.ownBlock ≠ some g
  pos : p ≤ 8 * xs.length
  few : xs.length ≤ 1000000
  byts : ∀ x ∈ xs, 0 ≤ x ∧ x ≤ 255

theorem newReader_any (w : World) (b : Value) (n : Nat) (xs : List Int) (hr : Rd w 1 b n (byt xs)) (hn : n ≤ 1000000) (hb : ∀ x ∈ xs, 0 ≤ x ∧ x ≤ 255) :
    Calls Try.prog 22 #[b] w fun e w' => ∃ g v, e = .returned (.pointer (some ⟨g, 0, none⟩)) ∧ RdAt w' w.heap.size g v xs 0 ∧ Below w.heap.size w w' := by
  have hxl : xs.length = n := by have := hr.1; simpa [byt] using this
  have R := Lib.hid hr
  have HX := Lib.hid hxl
  clear hr hxl
  go_enter Try.func22, Try.ntmps22
  go_wp2_with (at_builtin; refine app_own _ elemB rfl _ _ rfl w.heap.size (.slice none 0 0) 0 [] rfl (World.ownsRow_nil _ _ _ _) b n (byt xs) rfl R.out (one_byt _) (by simp only [maxLen]; omega) (by omega) (Nat.le_refl _) ?_; intro p w1 ho hg; simp only [Nat.zero_add, List.nil_append] at ho; obtain ⟨pa, pc, rfl, _, _, _⟩ := owns_shape ho)
  go_ret
  have hs := hg.size
  refine ⟨_, _, rfl, ⟨heap_alloc_new w1 _, ?_, hs, ?_, Nat.zero_le _, by rw [HX.out]; exact hn, hb⟩, (below_of_grown_none (Below.refl _ _) (Nat.le_refl _) hg).alloc hs _⟩
  · rw [HX.out]; exact ho.alloc _
  · intro e
    have := (ho.lt _ e).2
    omega
theorem left_any (w : World) (B g : Nat) (v : Value) (xs : List Int) (p : Nat) (h : RdAt w B g v xs p) : Calls Try.prog 26 #[.pointer (some ⟨g, 0, none⟩)] w fun e w' => e = .returned (.int .i64 ((8 * xs.length - p : Nat) : Int)) ∧ ∃ m, w' = w.drewN m := by
  obtain ⟨va, vc, rfl, _, _, _⟩ := owns_shape h.row
  have c0 : w.cell? ⟨g, 0, none⟩ = some (.slice va xs.length vc) := by rw [cell_of_row w g 0 _ _ _ h.blk]; rfl
  have c1 : w.cell? ⟨g, 1, none⟩ = some (.int .i64 (p : Nat)) := by rw [cell_of_row w g 1 _ _ _ h.blk]; rfl
  have h1 := h.pos; have h2 := h.few
  have he : ((8 * xs.length - p : Nat) : Int) = 8 * (xs.length : Int) - p := by omega
  have HE := Lib.hid he
  clear h he
  go_enter Try.func26, Try.ntmps26
  go_wp2_with fail
  go_quiet (fail)
  go_wp2_with fail
  go_ret
  exact ⟨by rw [HE.out]; rfl, _, rfl⟩
theorem bit_any (w : World) (B g : Nat) (v : Value) (xs : List Int) (p : Nat) (h : RdAt w B g v xs p) (i : Nat) (hi : i < 8 * xs.length) : Calls Try.prog 52 #[.pointer (some ⟨g, 0, none⟩), .int .i64 i] w fun e w' => e = .returned (.int .u64 (b2i (bitOf xs i))) ∧ w = w' := by
  obtain ⟨q, vc, rfl, _, _, _, _⟩ := owns_some h.row (by omega)
  have c0 : w.cell? ⟨g, 0, none⟩ = some (.slice (some ⟨q, 0, none⟩) xs.length vc) := by rw [cell_of_row w g 0 _ _ _ h.blk]; rfl
  obtain ⟨c, hc⟩ : ∃ c, c = xs.getD (i / 8) 0 := ⟨_, rfl⟩
  have ch : w.cell? ⟨q, i / 8, none⟩ = some (.int .u8 c) := by rw [h.row.cellAt (i / 8) (by omega), byt_get _ _ (by omega), hc]
  have hb : 0 ≤ c ∧ c ≤ 255 := by
    have hlt : i / 8 < xs.length := by omega
    rw [hc, show xs.getD (i / 8) 0 = xs[i / 8] by simp [List.getD, hlt]]; exact h.byts _ (List.getElem_mem hlt)
  have h2 := h.few
  have he : c / 2 ^ (7 - i % 8) % 2 = b2i (bitOf xs i) := by
    unfold bitOf b2i
    rw [← hc]
    rcases (by omega : c / 2 ^ (7 - i % 8) % 2 = 0 ∨ c / 2 ^ (7 - i % 8) % 2 = 1) with h | h <;> rw [h] <;> rfl
  have HE := Lib.hid he
  clear h he hc
  go_enter Try.func52, Try.ntmps52
  go_wp2_with fail
  go_ret
  exact ⟨by rw [← HE.out]; rfl, rfl⟩

/-- The number of j bits from place p on. -/
def numAt (xs : List Int) (p j : Nat) : Nat := number ((List.range j).map fun t => bitOf xs (p + t))
theorem numAt_succ (xs : List Int) (p j : Nat) : numAt xs p (j + 1) = 2 * numAt xs p j + (if bitOf xs (p + j) then 1 else 0) := by
  rw [numAt, List.range_succ, List.map_append, List.map_singleton, number_snoc]; rfl
theorem numAt_lt (xs : List Int) (p j : Nat) : numAt xs p j < 2 ^ j := by
  have := number_lt ((List.range j).map fun t => bitOf xs (p + t))
  simpa [numAt] using this
theorem or_b2i (x : Nat) (b : Bool) (h : x < 9223372036854775808) : bits .or .u64 ((x : Int) * 2) (b2i b) = ((2 * x + (if b then 1 else 0) : Nat) : Int) := by
  have hx : ((x * 2 : Nat) : Int) = (x : Int) * 2 := by omega
  cases b
  · have h1 := u64_or_nat (x * 2) 0 (by omega) (by decide)
    rw [hx] at h1
    simp only [b2i]
    have e0 : ((0 : Nat) : Int) = 0 := rfl
    rw [e0] at h1
    simp only [Bool.false_eq_true, if_false]
    rw [h1, Nat.or_zero]; omega
  · have h1 := u64_or_nat (x * 2) 1 (by omega) (by decide)
    rw [show x * 2 ||| 1 = x * 2 + 1 from by rw [nat_join 1 (x * 2) 1 (by omega) (by decide)]] at h1
    rw [hx] at h1
    simp only [b2i, if_true]
    have e1 : ((1 : Nat) : Int) = 1 := rfl
    rw [e1] at h1
    rw [h1]; omega

theorem get_no (w : World) (B g : Nat) (v : Value) (xs : List Int) (p : Nat) (h : RdAt w B g v xs p) (n : Int) (hn : n < 0 ∨ 64 < n ∨ ((8 * xs.length - p : Nat) : Int) < n) :
    Calls Try.prog 24 #[.pointer (some ⟨g, 0, none⟩), .int .i64 n] w fun e w' => e = .returned (.tuple #[.int .u64 0, .bool false]) ∧ ∃ m, w' = w.drewN m := by
  have L := Lib.hid (left_any w B g v xs p h)
  clear h
  by_cases h1 : n < 0
  · go_enter Try.func24, Try.ntmps24
    go_wp2_with fail
    go_ret2
    exact ⟨rfl, 0, rfl⟩
  by_cases h2 : 64 < n
  · go_enter Try.func24, Try.ntmps24
    go_wp2_with fail
    go_ret2
    exact ⟨rfl, 0, rfl⟩
  · have h3 : ((8 * xs.length - p : Nat) : Int) < n := by omega
    generalize (8 * xs.length - p : Nat) = M at *
    go_enter Try.func24, Try.ntmps24
    go_wp2_with (go_at_call 26; refine L.out.mono ?_; rintro e w' ⟨rfl, m, rfl⟩)
    go_ret2
    exact ⟨rfl, m, rfl⟩
theorem RdAt.drewN {w : World} {B g : Nat} {v : Value} {xs : List Int} {p : Nat} (h : RdAt w B g v xs p) (m : Nat) : RdAt (w.drewN m) B g v xs p := ⟨h.blk, h.row, h.base, h.ne, h.pos, h.few, h.byts⟩

set_option maxHeartbeats 800000 in
theorem get_yes (w : World) (B g : Nat) (v : Value) (xs : List Int) (p : Nat) (h : RdAt w B g v xs p) (n : Nat) (hn : n ≤ 64) (hn2 : p + n ≤ 8 * xs.length) :
    Calls Try.prog 24 #[.pointer (some ⟨g, 0, none⟩), .int .i64 n] w fun e w' => e = .returned (.tuple #[.int .u64 (numAt xs p n), .bool true]) ∧ RdAt w' B g v xs (p + n) ∧ Fr (fun k => k = g) w w' := by
  have L := Lib.hid (left_any w B g v xs p h)
  have hM : n ≤ 8 * xs.length - p := by omega
  generalize (8 * xs.length - p : Nat) = M at *
  have H := Lib.hid h
  have q1 : decide ((n : Int) < 0) = false := by simp
  have q2 : decide (64 < (n : Int)) = false := by simp; omega
  have q3 : decide (M < n) = false := decide_eq_false (by omega)
  clear h
  go_enter Try.func24, Try.ntmps24
  go_wp2_with (go_at_call 26; refine L.out.mono ?_; rintro e w' ⟨rfl, m, rfl⟩)
  go_loopw [6, 20] (fun x i wr => ∃ j, j ≤ n ∧ i = .int .i64 (j : Nat) ∧ x = .int .u64 (numAt xs p j : Nat) ∧ RdAt wr B g v xs (p + j) ∧ Fr (fun k => k = g) w wr) (fun _ i _ => n - (intOf i).toNat)
  case atStart => exact ⟨0, by omega, rfl, rfl, H.out.drewN m, (Fr.refl _ _).drewN m⟩
  case round =>
    obtain ⟨j, hj, rfl, rfl, hr, hfr⟩ := hrel
    by_cases hlt : j < n
    · have c1 : wr.cell? ⟨g, 1, none⟩ = some (.int .i64 ((p + j : Nat) : Int)) := by rw [cell_of_row wr g 1 _ _ _ hr.blk]; rfl
      have f1 := frozen_of_row wr g 1 _ _ hr.blk
      have hfew := hr.few
      obtain ⟨X, hX⟩ : ∃ X, X = numAt xs p j := ⟨_, rfl⟩
      obtain ⟨Y, hY⟩ : ∃ Y, Y = numAt xs p (j + 1) := ⟨_, rfl⟩
      obtain ⟨q, hq⟩ : ∃ q, q = p + j := ⟨_, rfl⟩
      rw [← hq] at c1
      have hXl : X < 9223372036854775808 := by
        have h1 := numAt_lt xs p j
        have h2 : (2 : Nat) ^ j ≤ 2 ^ 63 := Nat.pow_le_pow_right (by decide) (by omega)
        have h3 : (2 : Nat) ^ 63 = 9223372036854775808 := by decide +kernel
        omega
      have hor : bits .or .u64 ((X : Int) * 2) (b2i (bitOf xs q)) = (Y : Nat) := by
        rw [or_b2i X _ hXl, hY, numAt_succ, hX, hq]
      have hq2 : q ≤ 8000000 := by omega
      rw [← hX]
      have BT := Lib.hid (bit_any wr B g v xs (p + j) hr q (by omega))
      have HR := Lib.hid hr
      have HF := Lib.hid hfr
      have HQ := Lib.hid hq
      have HX := Lib.hid hX
      have HY := Lib.hid hY
      clear hr hfr hq hX hY
      go_wp2_with (go_at_call 52; refine BT.out.mono ?_; rintro e w' ⟨rfl, rfl⟩)
      go_roundw
      case rel =>
        have e : p + (j + 1) = q + 1 := by rw [HQ.out]; rfl
        have hr := HR.out
        rw [← HQ.out] at hr
        refine ⟨j + 1, by omega, by go_num, by rw [HY.out], ?_, HF.out.setCell (.inr rfl) _⟩
        rw [e]
        refine ⟨?_, owns_set_other hr.row _ _ hr.ne, hr.base, hr.ne, by omega, hr.few, hr.byts⟩
        rw [heap_setCell_same wr g 1 _ _ _ hr.blk]; rfl
      case measure => simp [intOf]; omega
    · obtain rfl : j = n := by omega
      have HR := Lib.hid hr
      have HF := Lib.hid hfr
      clear hr hfr
      go_wp2_with fail
      go_ret2
      exact ⟨rfl, HR.out, HF.out⟩
end Go.Proofs.Ytmdhiigonlnoiaa
