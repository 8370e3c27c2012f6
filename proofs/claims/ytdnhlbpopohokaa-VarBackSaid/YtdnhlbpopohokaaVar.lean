/- Contracts of package varint and of its references. -/
import Derived.Test.YtdnhlbpopohokaaChecked
import Derived.Test.YtdnhlbpopohokaaLib
import Derived.Test.YtdnhlbpopohokaaMem
import Derived.Test.YtdnhlbpopohokaaVarLib
namespace Go.Proofs.Ytdnhlbpopohokaa
open Go.RowKit Go.Waf
set_option maxRecDepth 100000
attribute [local go_sem] or128 mask127_u8

theorem elemB : Elem Try.prog 22 5 1 1 := Elem.mk' (z := .int .u8 0) Try.underlying22 (by kernel_rfl) rfl (by decide)

theorem cloneB_any (w : World) (v : Value) (n : Nat) (xs : List Int) (hr : Rd w 1 v n (byt xs)) (hn : n ≤ 70368744177664) :
    Calls Try.prog 16 #[v] w (OwnRet w.heap.size 5 1 n (byt xs) w) := by
  have hown := (World.ownsRow_made (base := w.heap.size) (e := 5) (size := 1) w #[] 0 (Nat.le_refl _) (by simp [maxLen]) rfl)
  have hr2 := hr.below (Below.alloc (Below.refl w.heap.size w) (Nat.le_refl _) (.cells #[] 5)) (Nat.le_refl _)
  have HR := Lib.hid hr2
  have qn := fun (w : World) (a : Option Addr) (n c n' c' : Nat) => Lib.run_eql_slice_nil (P := Try.prog) w _ _ a n c n' c' Try.underlying22
  clear hr2
  obtain ⟨hl, a, cap, rfl, h1, h2, h3, h4⟩ := hr
  have H4 := Lib.hid h4
  clear h4
  cases a with
  | none =>
    have : cap = 0 := h3 rfl
    obtain rfl : n = 0 := by omega
    obtain rfl : xs = [] := List.eq_nil_of_length_eq_zero (by simpa [byt] using hl)
    subst this
    clear H4 HR hown
    go_enter Try.func16, Try.ntmps16
    go_wp2
    go_ret
    exact ⟨_, rfl, World.ownsRow_nil _ _ _ _, Below.refl _ _⟩
  | some a =>
    clear hl h3
    go_enter Try.func16, Try.ntmps16
    go_wp2_with (at_builtin; refine app_own _ elemB rfl _ _ rfl w.heap.size _ 0 [] rfl hown _ n (byt xs) rfl HR.out (one_byt _) (by simp only [maxLen]; omega) (by omega) (by simp) ?_; intro v' w1 hown1 hg1)
    go_ret
    exact ⟨v', rfl, by simpa using hown1, below_of_grown ((Below.refl _ _).alloc (Nat.le_refl _) _) (by simp) hown (Nat.le_refl _) rfl hg1⟩

set_option maxHeartbeats 400000 in
theorem put_any (w : World) (b : Value) (n : Nat) (xs : List Int) (hr : Rd w 1 b n (byt xs)) (hn : n ≤ 1000000) (v : Nat) (hv : v < 18446744073709551616) :
    Calls Try.prog 8 #[b, .int .u64 v] w (OwnRet w.heap.size 5 1 (n + (putVar v).length) (byt (xs ++ putVar v)) w) := by
  go_enter Try.func8, Try.ntmps8
  go_wp2_with fail
  refine (cloneB_any _ _ _ xs hr (by omega)).mono ?_
  rintro e w1 ⟨c, rfl, hc, hb⟩
  have HC := Lib.hid hc
  clear hc
  go_wp2_with fail
  go_loopw [1, 5] (fun u b wr => ∃ (x : Nat) (ys : List Int), x < 18446744073709551616 ∧ u = .int .u64 x ∧ wr.ownsRow w.heap.size 5 1 b (n + ys.length) (byt (xs ++ ys)) ∧ Below w.heap.size w wr ∧ ys.length + (putVar x).length ≤ 10 ∧ putVar v = ys ++ putVar x)
    (fun u _ _ => (intOf u).toNat)
  case atStart => exact ⟨v, [], hv, rfl, by simpa using HC.out, hb, by simpa using putVar_len v hv, rfl⟩
  case round =>
    obtain ⟨x, ys, hx, rfl, hown, hbw, hlen, heq⟩ := hrel
    have HL := Lib.hid hlen
    have HE := Lib.hid heq
    have hyl : ys.length ≤ 9 := by have := putVar_pos x; omega
    clear hlen heq
    have hsz := hbw.size
    by_cases hlt : x < 128
    · have hg : ¬ (127 < (x : Int)) := by omega
      have hp := putVar_lt x hlt
      have HP := Lib.hid hp
      clear hp
      go_wp2_with (at_builtin; refine app_own _ elemB rfl _ _ rfl w.heap.size _ (n + ys.length) (byt (xs ++ ys)) rfl (hown.alloc _) _ 1 (byt [(x : Int)]) rfl (rd_new _ _ _ _ _ (by simp) (by simp [maxLen])) (one_byt _) (by simp only [maxLen]; omega) (by omega) (by simp; omega) ?_; intro v' w2 hown2 hg2)
      go_ret
      refine ⟨v', rfl, ?_, below_of_grown (hbw.alloc hsz _) (by simp; omega) (hown.alloc _) (Nat.le_refl _) rfl hg2⟩
      have e := HE.out
      rw [HP.out] at e
      rw [e, ← List.append_assoc, byt_append (xs ++ ys), List.length_append, ← Nat.add_assoc]
      exact hown2
    · have hp := putVar_ge x hlt
      have HP := Lib.hid hp
      clear hp
      go_wp2_with (at_builtin; refine app_own _ elemB rfl _ _ rfl w.heap.size _ (n + ys.length) (byt (xs ++ ys)) rfl (hown.alloc _) _ 1 (byt [(x : Int) % 128 + 128]) rfl (rd_new _ _ _ _ _ (by simp) (by simp [maxLen])) (one_byt _) (by simp only [maxLen]; omega) (by omega) (by simp; omega) ?_; intro v' w2 hown2 hg2)
      go_roundw
      case rel =>
        have e := HE.out
        have hl := HL.out
        rw [HP.out] at e hl
        refine ⟨x / 128, ys ++ [(x : Int) % 128 + 128], by omega, by go_num, ?_, below_of_grown (hbw.alloc hsz _) (by simp; omega) (hown.alloc _) (Nat.le_refl _) rfl hg2, ?_, ?_⟩
        · rw [← List.append_assoc, byt_append (xs ++ ys), List.length_append, ← Nat.add_assoc]
          exact hown2
        · rw [List.length_append]; simp only [List.length_cons, List.length_nil] at hl ⊢; omega
        · rw [e]; simp
      case measure => simp [intOf]; omega

/-- The bytes that a slice holds lie between 0 and 255. -/
def Bytes (xs : List Int) : Prop := ∀ x ∈ xs, 0 ≤ x ∧ x ≤ 255
theorem Bytes.at {xs : List Int} (h : Bytes xs) (i : Nat) : 0 ≤ xs[i]?.getD 0 ∧ xs[i]?.getD 0 ≤ 255 := by
  rcases Nat.lt_or_ge i xs.length with h1 | h1
  · rw [List.getElem?_eq_getElem h1]; exact h _ (List.getElem_mem h1)
  · rw [List.getElem?_eq_none h1]; simp

set_option maxHeartbeats 1000000 in
theorem read_any (w : World) (b : Value) (n : Nat) (xs : List Int) (hr : Rd w 1 b n (byt xs)) (hx : Bytes xs) (u k : Nat) (t : Bool) (hres : readRes (readVar xs) = (u, k, t)) :
    Calls Try.prog 10 #[b] w fun e w' => e = .returned (.tuple #[.int .u64 u, .int .i64 k, .bool t]) ∧ w = w' := by
  have HRES := Lib.hid hres
  clear hres
  obtain ⟨hl, a, cap, rfl, h1, h2, h3, h4⟩ := hr
  have hxl : xs.length = n := by simpa [byt] using hl
  unfold maxLen at h2
  have HX := Lib.hid hxl
  clear hxl hl h3
  rcases Nat.eq_zero_or_pos n with hn | hn
  · subst hn
    clear h4
    have hr : (u, k, t) = (0, 0, false) := by
      rw [← HRES.out, List.eq_nil_of_length_eq_zero HX.out]; rfl
    have HR := Lib.hid hr
    clear hr
    go_enter Try.func10, Try.ntmps10
    go_wp2_with fail
    refine wp_loop_once ?_
    go_wp2
    go_ret3
    obtain ⟨rfl, rfl, rfl⟩ : u = 0 ∧ k = 0 ∧ t = false := by simpa using HR.out
    exact ⟨rfl, rfl⟩
  obtain ⟨bb, off, rfl, hc⟩ := h4 hn
  clear h4
  by_cases hM : n ≤ 10
  · go_enter Try.func10, Try.ntmps10
    go_wp2_with fail
    go_loop [5, 14] (fun v i => ∃ i' a : Nat, i' ≤ n ∧ i = .int .i64 i' ∧ v = .int .u64 a ∧ a < 128 ^ i' ∧ a < 18446744073709551616 ∧ readFrom i' a (xs.drop i') = readVar xs) (fun _ i => n - (intOf i).toNat)
    case atStart => exact ⟨0, 0, by omega, rfl, rfl, by simp, by omega, rfl⟩
    case round =>
      obtain ⟨i, a, hi, rfl, rfl, ha, ha64, heq⟩ := hrel
      have HA := Lib.hid ha
      have HE := Lib.hid heq
      clear ha heq
      by_cases hlt : i < n
      · have hcell := hc i _ (byt_get xs i (by rw [HX.out]; omega))
        have hb := hx.at i
        obtain ⟨c, hcd⟩ : ∃ c, c = xs.getD i 0 := ⟨_, rfl⟩
        have hb' : 0 ≤ c ∧ c ≤ 255 := by rw [hcd]; simpa using hb
        have HCD := Lib.hid hcd
        rw [← hcd] at hcell
        clear hb hcd
        have hstep : readVar xs = readFrom i a (c :: xs.drop (i + 1)) := by
          rw [← HE.out, List.drop_eq_getElem_cons (by rw [HX.out]; omega)]
          congr 2
          rw [HCD.out]; simp [List.getD, show i < xs.length by rw [HX.out]; omega]
        have HS := Lib.hid hstep
        clear hstep
        by_cases hA : i = 9 ∧ 1 < c
        · have hr : (u, k, t) = (0, 0, false) := by rw [← HRES.out, HS.out, readFrom, if_pos (.inr (.inl hA))]; rfl
          have HR := Lib.hid hr
          clear hr
          obtain ⟨hA1, hA2⟩ := hA
          have q9 : ((i : Int) == 9) = true := by simp; omega
          have hi9 : 9 ≤ i := by omega
          clear hA1
          go_wp2
          go_ret3
          obtain ⟨rfl, rfl, rfl⟩ : u = 0 ∧ k = 0 ∧ t = false := by simpa using HR.out
          exact ⟨rfl, rfl⟩
        by_cases hB : 0 < i ∧ c = 0
        · have hr : (u, k, t) = (0, 0, false) := by rw [← HRES.out, HS.out, readFrom, if_pos (.inr (.inr hB))]; rfl
          have HR := Lib.hid hr
          clear hr
          obtain ⟨hB1, hB2⟩ := hB
          have hB3 : c < 1 := by omega
          have hB4 : 0 ≤ c := by omega
          obtain ⟨rfl, rfl, rfl⟩ : u = 0 ∧ k = 0 ∧ t = false := by simpa using HR.out
          have qc : (c == 0) = true := by simp [hB2]
          clear hB2 HCD
          obtain ⟨q, q9⟩ : ∃ q, ((i : Int) == 9) = q := ⟨_, rfl⟩
          cases q
          all_goals
            go_wp2
            go_ret3
            exact ⟨rfl, rfl⟩
        have hbad : ¬ (10 ≤ i ∨ (i = 9 ∧ 1 < c) ∨ (0 < i ∧ c = 0)) := by omega
        have hor := or_step a c i HA.out (by omega) hb'.1 hb'.2 (by omega)
        have hlt2 := step_lt a c i HA.out (by omega) hb'.1 hb'.2 (by omega)
        obtain ⟨A', hA'⟩ : ∃ A', A' = a + (c % 128).toNat * 128 ^ i := ⟨_, rfl⟩
        rw [← hA'] at hor hlt2
        have HA' := Lib.hid hA'
        have HLT := Lib.hid hlt2.1
        have HLT2 := Lib.hid hlt2.2
        clear hlt2 hA'
        by_cases hC : c < 128
        · have hr : (u, k, t) = (A', i + 1, true) := by rw [← HRES.out, HS.out, readFrom, if_neg hbad, if_pos hC, HA'.out]; rfl
          have HR := Lib.hid hr
          clear hr
          obtain ⟨rfl, rfl, rfl⟩ : u = A' ∧ k = i + 1 ∧ t = true := by simpa using HR.out
          rcases three i c hbad with ⟨h0, q9⟩ | ⟨h0, q9, qc⟩ | ⟨h0, q9, hc1, qc⟩
          all_goals
            go_wp2
            go_ret3
            exact ⟨rfl, rfl⟩
        · have hr : readVar xs = readFrom (i + 1) A' (xs.drop (i + 1)) := by rw [HS.out, readFrom, if_neg hbad, if_neg hC, HA'.out]
          have HR := Lib.hid hr
          clear hr
          rcases three i c hbad with ⟨h0, q9⟩ | ⟨h0, q9, qc⟩ | ⟨h0, q9, hc1, qc⟩
          rotate_left 2
          · exfalso; omega
          all_goals
            go_wp2
            go_round
            case rel => exact ⟨i + 1, _, by omega, by go_num, rfl, HLT.out, HLT2.out, HR.out.symm⟩
            case measure => simp [intOf]; omega
      · have hr : (u, k, t) = (0, 0, false) := by
          rw [← HRES.out, ← HE.out]
          rw [List.drop_of_length_le (by rw [HX.out]; omega)]; rfl
        have HR := Lib.hid hr
        clear hr
        go_wp2
        go_ret3
        obtain ⟨rfl, rfl, rfl⟩ : u = 0 ∧ k = 0 ∧ t = false := by simpa using HR.out
        exact ⟨rfl, rfl⟩
  · go_enter Try.func10, Try.ntmps10
    go_wp2_with fail
    go_loop [5, 14] (fun v i => ∃ i' a : Nat, i' ≤ 10 ∧ i = .int .i64 i' ∧ v = .int .u64 a ∧ a < 128 ^ i' ∧ a < 18446744073709551616 ∧ readFrom i' a (xs.drop i') = readVar xs) (fun _ i => 10 - (intOf i).toNat)
    case atStart => exact ⟨0, 0, by omega, rfl, rfl, by simp, by omega, rfl⟩
    case round =>
      obtain ⟨i, a, hi, rfl, rfl, ha, ha64, heq⟩ := hrel
      have HA := Lib.hid ha
      have HE := Lib.hid heq
      clear ha heq
      by_cases hlt : i < 10
      · have hcell := hc i _ (byt_get xs i (by rw [HX.out]; omega))
        have hb := hx.at i
        obtain ⟨c, hcd⟩ : ∃ c, c = xs.getD i 0 := ⟨_, rfl⟩
        have hb' : 0 ≤ c ∧ c ≤ 255 := by rw [hcd]; simpa using hb
        have HCD := Lib.hid hcd
        rw [← hcd] at hcell
        clear hb hcd
        have hstep : readVar xs = readFrom i a (c :: xs.drop (i + 1)) := by
          rw [← HE.out, List.drop_eq_getElem_cons (by rw [HX.out]; omega)]
          congr 2
          rw [HCD.out]; simp [List.getD, show i < xs.length by rw [HX.out]; omega]
        have HS := Lib.hid hstep
        clear hstep
        by_cases hA : i = 9 ∧ 1 < c
        · have hr : (u, k, t) = (0, 0, false) := by rw [← HRES.out, HS.out, readFrom, if_pos (.inr (.inl hA))]; rfl
          have HR := Lib.hid hr
          clear hr
          obtain ⟨hA1, hA2⟩ := hA
          have q9 : ((i : Int) == 9) = true := by simp; omega
          have hi9 : 9 ≤ i := by omega
          clear hA1
          go_wp2
          go_ret3
          obtain ⟨rfl, rfl, rfl⟩ : u = 0 ∧ k = 0 ∧ t = false := by simpa using HR.out
          exact ⟨rfl, rfl⟩
        by_cases hB : 0 < i ∧ c = 0
        · have hr : (u, k, t) = (0, 0, false) := by rw [← HRES.out, HS.out, readFrom, if_pos (.inr (.inr hB))]; rfl
          have HR := Lib.hid hr
          clear hr
          obtain ⟨hB1, hB2⟩ := hB
          have hB3 : c < 1 := by omega
          have hB4 : 0 ≤ c := by omega
          obtain ⟨rfl, rfl, rfl⟩ : u = 0 ∧ k = 0 ∧ t = false := by simpa using HR.out
          have qc : (c == 0) = true := by simp [hB2]
          clear hB2 HCD
          obtain ⟨q, q9⟩ : ∃ q, ((i : Int) == 9) = q := ⟨_, rfl⟩
          cases q
          all_goals
            go_wp2
            go_ret3
            exact ⟨rfl, rfl⟩
        have hbad : ¬ (10 ≤ i ∨ (i = 9 ∧ 1 < c) ∨ (0 < i ∧ c = 0)) := by omega
        have hor := or_step a c i HA.out (by omega) hb'.1 hb'.2 (by omega)
        have hlt2 := step_lt a c i HA.out (by omega) hb'.1 hb'.2 (by omega)
        obtain ⟨A', hA'⟩ : ∃ A', A' = a + (c % 128).toNat * 128 ^ i := ⟨_, rfl⟩
        rw [← hA'] at hor hlt2
        have HA' := Lib.hid hA'
        have HLT := Lib.hid hlt2.1
        have HLT2 := Lib.hid hlt2.2
        clear hlt2 hA'
        by_cases hC : c < 128
        · have hr : (u, k, t) = (A', i + 1, true) := by rw [← HRES.out, HS.out, readFrom, if_neg hbad, if_pos hC, HA'.out]; rfl
          have HR := Lib.hid hr
          clear hr
          obtain ⟨rfl, rfl, rfl⟩ : u = A' ∧ k = i + 1 ∧ t = true := by simpa using HR.out
          rcases three i c hbad with ⟨h0, q9⟩ | ⟨h0, q9, qc⟩ | ⟨h0, q9, hc1, qc⟩
          all_goals
            go_wp2
            go_ret3
            exact ⟨rfl, rfl⟩
        · have hr : readVar xs = readFrom (i + 1) A' (xs.drop (i + 1)) := by rw [HS.out, readFrom, if_neg hbad, if_neg hC, HA'.out]
          have HR := Lib.hid hr
          clear hr
          rcases three i c hbad with ⟨h0, q9⟩ | ⟨h0, q9, qc⟩ | ⟨h0, q9, hc1, qc⟩
          rotate_left 2
          · exfalso; omega
          all_goals
            go_wp2
            go_round
            case rel => exact ⟨i + 1, _, by omega, by go_num, rfl, HLT.out, HLT2.out, HR.out.symm⟩
            case measure => simp [intOf]; omega
      · have hr : (u, k, t) = (0, 0, false) := by
          rw [← HRES.out, ← HE.out]
          rcases hd : xs.drop i with _ | ⟨c, cs⟩
          · rfl
          · rw [readFrom, if_pos (.inl (by omega))]; rfl
        have HR := Lib.hid hr
        clear hr
        go_wp2
        go_ret3
        obtain ⟨rfl, rfl, rfl⟩ : u = 0 ∧ k = 0 ∧ t = false := by simpa using HR.out
        exact ⟨rfl, rfl⟩
set_option maxHeartbeats 1000000 in
theorem rread_any (w : World) (b : Value) (n : Nat) (xs : List Int) (hr : Rd w 1 b n (byt xs)) (hx : Bytes xs) (u k : Nat) (t : Bool) (hres : readRes (readVar xs) = (u, k, t)) :
    Calls Try.prog 14 #[b] w fun e w' => e = .returned (.tuple #[.int .u64 u, .int .i64 k, .bool t]) ∧ w = w' := by
  have HRES := Lib.hid hres
  clear hres
  obtain ⟨hl, a, cap, rfl, h1, h2, h3, h4⟩ := hr
  have hxl : xs.length = n := by simpa [byt] using hl
  unfold maxLen at h2
  have HX := Lib.hid hxl
  clear hxl hl h3
  rcases Nat.eq_zero_or_pos n with hn | hn
  · subst hn
    clear h4
    have hr : (u, k, t) = (0, 0, false) := by
      rw [← HRES.out, List.eq_nil_of_length_eq_zero HX.out]; rfl
    have HR := Lib.hid hr
    clear hr
    go_enter Try.func14, Try.ntmps14
    go_wp2_with fail
    refine wp_loop_once ?_
    go_wp2
    go_ret3
    obtain ⟨rfl, rfl, rfl⟩ : u = 0 ∧ k = 0 ∧ t = false := by simpa using HR.out
    exact ⟨rfl, rfl⟩
  obtain ⟨bb, off, rfl, hc⟩ := h4 hn
  clear h4
  by_cases hM : n ≤ 10
  · go_enter Try.func14, Try.ntmps14
    go_wp2_with fail
    go_loop [5, 6] (fun v i => ∃ i' a : Nat, i' ≤ n ∧ i = .int .i64 i' ∧ v = .int .u64 a ∧ a < 128 ^ i' ∧ a < 18446744073709551616 ∧ readFrom i' a (xs.drop i') = readVar xs) (fun _ i => n - (intOf i).toNat)
    case atStart => exact ⟨0, 0, by omega, rfl, rfl, by simp, by omega, rfl⟩
    case round =>
      obtain ⟨i, a, hi, rfl, rfl, ha, ha64, heq⟩ := hrel
      have HA := Lib.hid ha
      have HE := Lib.hid heq
      clear ha heq
      by_cases hlt : i < n
      · have hcell := hc i _ (byt_get xs i (by rw [HX.out]; omega))
        have hb := hx.at i
        obtain ⟨c, hcd⟩ : ∃ c, c = xs.getD i 0 := ⟨_, rfl⟩
        have hb' : 0 ≤ c ∧ c ≤ 255 := by rw [hcd]; simpa using hb
        have HCD := Lib.hid hcd
        rw [← hcd] at hcell
        clear hb hcd
        have hstep : readVar xs = readFrom i a (c :: xs.drop (i + 1)) := by
          rw [← HE.out, List.drop_eq_getElem_cons (by rw [HX.out]; omega)]
          congr 2
          rw [HCD.out]; simp [List.getD, show i < xs.length by rw [HX.out]; omega]
        have HS := Lib.hid hstep
        clear hstep
        by_cases hA : i = 9 ∧ 1 < c
        · have hr : (u, k, t) = (0, 0, false) := by rw [← HRES.out, HS.out, readFrom, if_pos (.inr (.inl hA))]; rfl
          have HR := Lib.hid hr
          clear hr
          obtain ⟨hA1, hA2⟩ := hA
          have q9 : ((i : Int) == 9) = true := by simp; omega
          have hi9 : 9 ≤ i := by omega
          clear hA1
          go_wp2
          go_ret3
          obtain ⟨rfl, rfl, rfl⟩ : u = 0 ∧ k = 0 ∧ t = false := by simpa using HR.out
          exact ⟨rfl, rfl⟩
        by_cases hB : 0 < i ∧ c = 0
        · have hr : (u, k, t) = (0, 0, false) := by rw [← HRES.out, HS.out, readFrom, if_pos (.inr (.inr hB))]; rfl
          have HR := Lib.hid hr
          clear hr
          obtain ⟨hB1, hB2⟩ := hB
          have hB3 : c < 1 := by omega
          have hB4 : 0 ≤ c := by omega
          obtain ⟨rfl, rfl, rfl⟩ : u = 0 ∧ k = 0 ∧ t = false := by simpa using HR.out
          have qc : (c == 0) = true := by simp [hB2]
          clear hB2 HCD
          obtain ⟨q, q9⟩ : ∃ q, ((i : Int) == 9) = q := ⟨_, rfl⟩
          cases q
          all_goals
            go_wp2
            go_ret3
            exact ⟨rfl, rfl⟩
        have hbad : ¬ (10 ≤ i ∨ (i = 9 ∧ 1 < c) ∨ (0 < i ∧ c = 0)) := by omega
        have hor := or_step a c i HA.out (by omega) hb'.1 hb'.2 (by omega)
        have hlt2 := step_lt a c i HA.out (by omega) hb'.1 hb'.2 (by omega)
        obtain ⟨A', hA'⟩ : ∃ A', A' = a + (c % 128).toNat * 128 ^ i := ⟨_, rfl⟩
        rw [← hA'] at hor hlt2
        have HA' := Lib.hid hA'
        have HLT := Lib.hid hlt2.1
        have HLT2 := Lib.hid hlt2.2
        clear hlt2 hA'
        by_cases hC : c < 128
        · have hr : (u, k, t) = (A', i + 1, true) := by rw [← HRES.out, HS.out, readFrom, if_neg hbad, if_pos hC, HA'.out]; rfl
          have HR := Lib.hid hr
          clear hr
          obtain ⟨rfl, rfl, rfl⟩ : u = A' ∧ k = i + 1 ∧ t = true := by simpa using HR.out
          rcases three i c hbad with ⟨h0, q9⟩ | ⟨h0, q9, qc⟩ | ⟨h0, q9, hc1, qc⟩
          all_goals
            go_wp2
            go_ret3
            exact ⟨rfl, rfl⟩
        · have hr : readVar xs = readFrom (i + 1) A' (xs.drop (i + 1)) := by rw [HS.out, readFrom, if_neg hbad, if_neg hC, HA'.out]
          have HR := Lib.hid hr
          clear hr
          rcases three i c hbad with ⟨h0, q9⟩ | ⟨h0, q9, qc⟩ | ⟨h0, q9, hc1, qc⟩
          rotate_left 2
          · exfalso; omega
          all_goals
            go_wp2
            go_round
            case rel => exact ⟨i + 1, _, by omega, by go_num, rfl, HLT.out, HLT2.out, HR.out.symm⟩
            case measure => simp [intOf]; omega
      · have hr : (u, k, t) = (0, 0, false) := by
          rw [← HRES.out, ← HE.out]
          rw [List.drop_of_length_le (by rw [HX.out]; omega)]; rfl
        have HR := Lib.hid hr
        clear hr
        go_wp2
        go_ret3
        obtain ⟨rfl, rfl, rfl⟩ : u = 0 ∧ k = 0 ∧ t = false := by simpa using HR.out
        exact ⟨rfl, rfl⟩
  · go_enter Try.func14, Try.ntmps14
    go_wp2_with fail
    go_loop [5, 6] (fun v i => ∃ i' a : Nat, i' ≤ 10 ∧ i = .int .i64 i' ∧ v = .int .u64 a ∧ a < 128 ^ i' ∧ a < 18446744073709551616 ∧ readFrom i' a (xs.drop i') = readVar xs) (fun _ i => 10 - (intOf i).toNat)
    case atStart => exact ⟨0, 0, by omega, rfl, rfl, by simp, by omega, rfl⟩
    case round =>
      obtain ⟨i, a, hi, rfl, rfl, ha, ha64, heq⟩ := hrel
      have HA := Lib.hid ha
      have HE := Lib.hid heq
      clear ha heq
      by_cases hlt : i < 10
      · have hcell := hc i _ (byt_get xs i (by rw [HX.out]; omega))
        have hb := hx.at i
        obtain ⟨c, hcd⟩ : ∃ c, c = xs.getD i 0 := ⟨_, rfl⟩
        have hb' : 0 ≤ c ∧ c ≤ 255 := by rw [hcd]; simpa using hb
        have HCD := Lib.hid hcd
        rw [← hcd] at hcell
        clear hb hcd
        have hstep : readVar xs = readFrom i a (c :: xs.drop (i + 1)) := by
          rw [← HE.out, List.drop_eq_getElem_cons (by rw [HX.out]; omega)]
          congr 2
          rw [HCD.out]; simp [List.getD, show i < xs.length by rw [HX.out]; omega]
        have HS := Lib.hid hstep
        clear hstep
        by_cases hA : i = 9 ∧ 1 < c
        · have hr : (u, k, t) = (0, 0, false) := by rw [← HRES.out, HS.out, readFrom, if_pos (.inr (.inl hA))]; rfl
          have HR := Lib.hid hr
          clear hr
          obtain ⟨hA1, hA2⟩ := hA
          have q9 : ((i : Int) == 9) = true := by simp; omega
          have hi9 : 9 ≤ i := by omega
          clear hA1
          go_wp2
          go_ret3
          obtain ⟨rfl, rfl, rfl⟩ : u = 0 ∧ k = 0 ∧ t = false := by simpa using HR.out
          exact ⟨rfl, rfl⟩
        by_cases hB : 0 < i ∧ c = 0
        · have hr : (u, k, t) = (0, 0, false) := by rw [← HRES.out, HS.out, readFrom, if_pos (.inr (.inr hB))]; rfl
          have HR := Lib.hid hr
          clear hr
          obtain ⟨hB1, hB2⟩ := hB
          have hB3 : c < 1 := by omega
          have hB4 : 0 ≤ c := by omega
          obtain ⟨rfl, rfl, rfl⟩ : u = 0 ∧ k = 0 ∧ t = false := by simpa using HR.out
          have qc : (c == 0) = true := by simp [hB2]
          clear hB2 HCD
          obtain ⟨q, q9⟩ : ∃ q, ((i : Int) == 9) = q := ⟨_, rfl⟩
          cases q
          all_goals
            go_wp2
            go_ret3
            exact ⟨rfl, rfl⟩
        have hbad : ¬ (10 ≤ i ∨ (i = 9 ∧ 1 < c) ∨ (0 < i ∧ c = 0)) := by omega
        have hor := or_step a c i HA.out (by omega) hb'.1 hb'.2 (by omega)
        have hlt2 := step_lt a c i HA.out (by omega) hb'.1 hb'.2 (by omega)
        obtain ⟨A', hA'⟩ : ∃ A', A' = a + (c % 128).toNat * 128 ^ i := ⟨_, rfl⟩
        rw [← hA'] at hor hlt2
        have HA' := Lib.hid hA'
        have HLT := Lib.hid hlt2.1
        have HLT2 := Lib.hid hlt2.2
        clear hlt2 hA'
        by_cases hC : c < 128
        · have hr : (u, k, t) = (A', i + 1, true) := by rw [← HRES.out, HS.out, readFrom, if_neg hbad, if_pos hC, HA'.out]; rfl
          have HR := Lib.hid hr
          clear hr
          obtain ⟨rfl, rfl, rfl⟩ : u = A' ∧ k = i + 1 ∧ t = true := by simpa using HR.out
          rcases three i c hbad with ⟨h0, q9⟩ | ⟨h0, q9, qc⟩ | ⟨h0, q9, hc1, qc⟩
          all_goals
            go_wp2
            go_ret3
            exact ⟨rfl, rfl⟩
        · have hr : readVar xs = readFrom (i + 1) A' (xs.drop (i + 1)) := by rw [HS.out, readFrom, if_neg hbad, if_neg hC, HA'.out]
          have HR := Lib.hid hr
          clear hr
          rcases three i c hbad with ⟨h0, q9⟩ | ⟨h0, q9, qc⟩ | ⟨h0, q9, hc1, qc⟩
          rotate_left 2
          · exfalso; omega
          all_goals
            go_wp2
            go_round
            case rel => exact ⟨i + 1, _, by omega, by go_num, rfl, HLT.out, HLT2.out, HR.out.symm⟩
            case measure => simp [intOf]; omega
      · have hr : (u, k, t) = (0, 0, false) := by
          rw [← HRES.out, ← HE.out]
          rcases hd : xs.drop i with _ | ⟨c, cs⟩
          · rfl
          · rw [readFrom, if_pos (.inl (by omega))]; rfl
        have HR := Lib.hid hr
        clear hr
        go_wp2
        go_ret3
        obtain ⟨rfl, rfl, rfl⟩ : u = 0 ∧ k = 0 ∧ t = false := by simpa using HR.out
        exact ⟨rfl, rfl⟩
end Go.Proofs.Ytdnhlbpopohokaa
