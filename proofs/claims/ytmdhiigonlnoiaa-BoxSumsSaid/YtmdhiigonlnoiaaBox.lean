/- Contracts of package box and of its references. -/
import Derived.Test.YtmdhiigonlnoiaaVar
import Derived.Test.YtmdhiigonlnoiaaMem3
import Derived.Test.YtmdhiigonlnoiaaBoxLib
import Derived.Deep.DeepCutAuto
import Derived.RegionTactic
import Derived.ChangeAlike
import Derived.BigRegion
import Derived.Deep.QuietTactic
import Derived.BigQuiet
import Derived.Lib.Bytes
import Derived.Laws.BitsAllLaws
namespace Go.Proofs.Ytmdhiigonlnoiaa
open Go.RowKit Go.Waf
set_option maxRecDepth 100000
set_option linter.unusedVariables false
theorem ownRet_mono {B e size n : Nat} {cs : List Value} {P : Program} {f : FuncId} {args : Array Value} {w : World} (h : Calls P f args w (OwnRet B e size n cs w)) (R : Ending → World → Prop) (hR : ∀ v w', w'.ownsRow B e size v n cs → Below B w w' → R (.returned v) w') : Calls P f args w R :=
  h.mono fun _ _ ⟨v, he, h1, h2⟩ => he ▸ hR v _ h1 h2
theorem Rd_at {w : World} {size n cap : Nat} {a : Option Addr} {cs : List Value} (h : Rd w size (.slice a n cap) n cs) (hn : 0 < n) : ∃ b off, a = some ⟨b, off, none⟩ ∧ ∀ j u, cs[j]? = some u → w.cell? ⟨b, off + j, none⟩ = some u := by
  obtain ⟨_, a', cap', he, _, _, _, h4⟩ := h
  cases he
  exact h4 hn
theorem or_u32 (y x : Int) (h0 : 0 ≤ y) (h1 : y < 65536) (h2 : 0 ≤ x) (h3 : x < 65536) : bits .or .u32 (y * 65536) x = y * 65536 + x := by
  obtain ⟨a, rfl⟩ := Int.eq_ofNat_of_zero_le h0
  obtain ⟨b, rfl⟩ := Int.eq_ofNat_of_zero_le h2
  rw [u32_or _ _ (by omega) (by omega) (by omega) (by omega)]
  have e1 : ((a : Int) * 65536).toNat = a <<< 16 := by rw [Nat.shiftLeft_eq]; omega
  rw [e1, Int.toNat_natCast, ← Nat.shiftLeft_add_eq_or_of_lt (by omega : b < 2 ^ 16), Nat.shiftLeft_eq]
  omega
theorem str_inj (xs ys : List Int) (hx : Bytes xs) (hy : Bytes ys) (h : (strOfNums xs).toList = (strOfNums ys).toList) : xs = ys := by
  rw [Lib.strOfNums_toList, Lib.strOfNums_toList] at h
  simp only [Lib.bytesOf] at h
  induction xs generalizing ys with
  | nil => cases ys with
    | nil => rfl
    | cons y ys => simp at h
  | cons x xs ih => cases ys with
    | nil => simp at h
    | cons y ys =>
      simp only [List.map_cons, List.cons.injEq] at h
      have h1 := hx x (by simp)
      have h2 := hy y (by simp)
      have h3 := congrArg UInt8.toNat h.1
      simp only [UInt8.toNat_ofNat'] at h3
      have : x = y := by omega
      rw [this, ih ys (fun z hz => hx z (by simp [hz])) (fun z hz => hy z (by simp [hz])) h.2]
theorem str_eq (xs ys : List Int) (hx : Bytes xs) (hy : Bytes ys) : ((strOfNums xs).toList == (strOfNums ys).toList) = decide (xs = ys) := by
  by_cases h : xs = ys
  · simp [h]
  · rw [decide_eq_false h]
    exact beq_eq_false_iff_ne.2 fun e => h (str_inj xs ys hx hy e)
theorem convB {w : World} {v : Value} {n : Nat} {xs : List Int} (hr : Rd w 1 v n (byt xs)) : (convert 33 9 v).run Try.prog w = .ok (.string (strOfNums xs)) w :=
  conv_rd Try.underlying33 Try.underlying5 Try.underlying9 hr
theorem equal_any (w : World) (v v' : Value) (n n' : Nat) (xs ys : List Int) (hr : Rd w 1 v n (byt xs)) (hr' : Rd w 1 v' n' (byt ys)) (hx : Bytes xs) (hy : Bytes ys) :
    Calls Try.prog 63 #[v, v'] w fun e w' => e = .returned (.bool (decide (xs = ys))) ∧ w = w' := by
  have q := str_eq xs ys hx hy
  have h1 := convB hr
  have h2 := convB hr'
  clear hr hr'
  go_enter Try.func63, Try.ntmps63
  go_wp2_with fail
  go_ret
  exact ⟨rfl, rfl⟩

set_option maxHeartbeats 800000 in
theorem sum_any (w : World) (v : Value) (n : Nat) (xs : List Int) (hr : Rd w 1 v n (byt xs)) (hb : Bytes xs) :
    Calls Try.prog 49 #[v] w fun e w' => e = .returned (.int .u32 (sumOf xs)) ∧ w = w' := by
  have hlen : xs.length = n := by have := hr.1; simpa [byt] using this
  obtain ⟨a, cap, rfl, c1, c2, c3⟩ := rd_shape hr
  have R := Lib.hid hr
  have HL := Lib.hid hlen
  have HB := Lib.hid hb
  clear hr hlen hb
  unfold maxLen at c2
  go_enter Try.func49, Try.ntmps49
  go_wp2_with fail
  go_loop [3, 4, 9] (fun x y i => ∃ k : Nat, k ≤ n ∧ i = .int .i64 (k : Int) ∧ x = .int .u32 (adl (xs.take k)).1 ∧ y = .int .u32 (adl (xs.take k)).2) (fun _ _ i => n - (intOf i).toNat)
  case atStart => exact ⟨0, by omega, rfl, rfl, rfl⟩
  case round =>
    obtain ⟨k, hk, rfl, rfl, rfl⟩ := hrel
    obtain ⟨h0, h1, h2, h3⟩ := adl_bounds (xs.take k)
    obtain ⟨X, hX⟩ : ∃ X, X = (adl (xs.take k)).1 := ⟨_, rfl⟩
    obtain ⟨Y, hY⟩ : ∃ Y, Y = (adl (xs.take k)).2 := ⟨_, rfl⟩
    rw [← hX] at h0 h1
    rw [← hY] at h2 h3
    rw [← hX, ← hY]
    have HX := Lib.hid hX
    have HY := Lib.hid hY
    clear hX hY
    by_cases hlt : k < n
    · obtain ⟨ab, ao, rfl, hc⟩ := Rd_at R.out (by omega)
      obtain ⟨c, hck⟩ : ∃ c, xs[k]? = some c := ⟨_, List.getElem?_eq_getElem (by rw [HL.out]; exact hlt)⟩
      have hcb := HB.out c (List.mem_of_getElem? hck)
      have cin : w.cell? ⟨ab, ao + k, none⟩ = some (.int .u8 c) := hc k _ (by rw [byt, List.getElem?_map, hck]; rfl)
      have hstep : adl (xs.take (k + 1)) = ((X + c) % 65521, (Y + (X + c) % 65521) % 65521) := by
        rw [List.take_add_one, hck, Option.toList_some, adl_snoc, adStep, ← HX.out, ← HY.out]
      have HS := Lib.hid hstep
      clear hc hck hstep
      obtain ⟨hcb0, hcb1⟩ := hcb
      go_wp2_with fail
      go_round
      case rel => exact ⟨k + 1, by omega, by go_num, by rw [HS.out], by rw [HS.out]⟩
      case measure => simp [intOf]; omega
    · obtain rfl : k = n := by omega
      have hs : sumOf xs = Y * 65536 + X := by rw [sumOf, HX.out, HY.out, List.take_of_length_le (by rw [HL.out]; omega)]
      have HSM := Lib.hid hs
      clear hs
      go_wp2_with fail
      go_ret
      refine ⟨?_, rfl⟩
      show Ending.returned (.int .u32 (bits .or .u32 (Y * 65536) X)) = _
      rw [or_u32 Y X h2 (by omega) h0 (by omega), HSM.out]

set_option maxHeartbeats 800000 in
theorem rsum_any (w : World) (v : Value) (n : Nat) (xs : List Int) (hr : Rd w 1 v n (byt xs)) (hb : Bytes xs) :
    Calls Try.prog 50 #[v] w fun e w' => e = .returned (.int .u32 (sumOf xs)) ∧ w = w' := by
  have hlen : xs.length = n := by have := hr.1; simpa [byt] using this
  obtain ⟨a, cap, rfl, c1, c2, c3⟩ := rd_shape hr
  have R := Lib.hid hr
  have HL := Lib.hid hlen
  have HB := Lib.hid hb
  clear hr hlen hb
  unfold maxLen at c2
  go_enter Try.func50, Try.ntmps50
  go_wp2_with fail
  go_loop [3, 4, 5] (fun x y i => ∃ k : Nat, k ≤ n ∧ i = .int .i64 (k : Int) ∧ x = .int .u32 (adl (xs.take k)).1 ∧ y = .int .u32 (adl (xs.take k)).2) (fun _ _ i => n - (intOf i).toNat)
  case atStart => exact ⟨0, by omega, rfl, rfl, rfl⟩
  case round =>
    obtain ⟨k, hk, rfl, rfl, rfl⟩ := hrel
    obtain ⟨h0, h1, h2, h3⟩ := adl_bounds (xs.take k)
    obtain ⟨X, hX⟩ : ∃ X, X = (adl (xs.take k)).1 := ⟨_, rfl⟩
    obtain ⟨Y, hY⟩ : ∃ Y, Y = (adl (xs.take k)).2 := ⟨_, rfl⟩
    rw [← hX] at h0 h1
    rw [← hY] at h2 h3
    rw [← hX, ← hY]
    have HX := Lib.hid hX
    have HY := Lib.hid hY
    clear hX hY
    by_cases hlt : k < n
    · obtain ⟨ab, ao, rfl, hc⟩ := Rd_at R.out (by omega)
      obtain ⟨c, hck⟩ : ∃ c, xs[k]? = some c := ⟨_, List.getElem?_eq_getElem (by rw [HL.out]; exact hlt)⟩
      have hcb := HB.out c (List.mem_of_getElem? hck)
      have cin : w.cell? ⟨ab, ao + k, none⟩ = some (.int .u8 c) := hc k _ (by rw [byt, List.getElem?_map, hck]; rfl)
      have hstep : adl (xs.take (k + 1)) = ((X + c) % 65521, (Y + (X + c) % 65521) % 65521) := by
        rw [List.take_add_one, hck, Option.toList_some, adl_snoc, adStep, ← HX.out, ← HY.out]
      have HS := Lib.hid hstep
      clear hc hck hstep
      obtain ⟨hcb0, hcb1⟩ := hcb
      go_wp2_with fail
      go_round
      case rel => exact ⟨k + 1, by omega, by go_num, by rw [HS.out], by rw [HS.out]⟩
      case measure => simp [intOf]; omega
    · obtain rfl : k = n := by omega
      have hs : sumOf xs = Y * 65536 + X := by rw [sumOf, HX.out, HY.out, List.take_of_length_le (by rw [HL.out]; omega)]
      have HSM := Lib.hid hs
      clear hs
      go_wp2_with fail
      go_ret
      refine ⟨?_, rfl⟩
      show Ending.returned (.int .u32 (bits .or .u32 (Y * 65536) X)) = _
      rw [or_u32 Y X h2 (by omega) h0 (by omega), HSM.out]

theorem number_any (w : World) (s : Int) (h0 : 0 ≤ s) (h1 : s < 4294967296) :
    Calls Try.prog 59 #[.int .u32 s] w (OwnRet w.heap.size 5 1 4 (byt (four s)) w) := by
  go_enter Try.func59, Try.ntmps59
  go_wp2_with fail
  go_ret
  have e : [Value.int IntKind.u8 (s / 16777216), Value.int IntKind.u8 (s / 65536 % 256), Value.int IntKind.u8 (s / 256 % 256), Value.int IntKind.u8 (s % 256)] = byt (four s) := by
    simp only [byt, four, List.map_cons, List.map_nil]
    rw [show s / 16777216 % 256 = s / 16777216 by omega]
  refine ⟨_, rfl, ?_, (Below.refl _ _).alloc (Nat.le_refl _) _⟩
  rw [← e]
  exact World.ownsRow_lit w _ 4 (Nat.le_refl _) (by simp [maxLen]) rfl

theorem rfour_any (w : World) (s : Int) (h0 : 0 ≤ s) (h1 : s < 4294967296) :
    Calls Try.prog 61 #[.int .u32 s] w (OwnRet w.heap.size 5 1 4 (byt (four s)) w) := by
  go_enter Try.func61, Try.ntmps61
  go_wp2_with fail
  go_ret
  have e : [Value.int IntKind.u8 (s / 16777216), Value.int IntKind.u8 (s / 65536 % 256), Value.int IntKind.u8 (s / 256 % 256), Value.int IntKind.u8 (s % 256)] = byt (four s) := by
    simp only [byt, four, List.map_cons, List.map_nil]
    rw [show s / 16777216 % 256 = s / 16777216 by omega]
  refine ⟨_, rfl, ?_, (Below.refl _ _).alloc (Nat.le_refl _) _⟩
  rw [← e]
  exact World.ownsRow_lit w _ 4 (Nat.le_refl _) (by simp [maxLen]) rfl
end Go.Proofs.Ytmdhiigonlnoiaa
