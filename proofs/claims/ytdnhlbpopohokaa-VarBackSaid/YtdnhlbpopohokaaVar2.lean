/- Contracts of package varint's numbers with a sign, and of the references. -/
import Derived.Test.YtdnhlbpopohokaaVar
namespace Go.Proofs.Ytdnhlbpopohokaa
open Go.RowKit Go.Waf
set_option maxRecDepth 100000
attribute [local go_sem] or128 mask127_u8 mask1_u64

theorem retU {k : IntKind} {a b : Int} (h : a = b) : Ending.returned (.int k a) = .returned (.int k b) := by rw [h]
theorem ret3_int {k k' : IntKind} {a b n : Int} {t : Bool} (h : a = b) : Ending.returned (.tuple #[.int k a, .int k' n, .bool t]) = .returned (.tuple #[.int k b, .int k' n, .bool t]) := by rw [h]
theorem zig_any (v : Int) (h0 : -9223372036854775808 ≤ v) (h1 : v ≤ 9223372036854775807) (w : World) : Calls Try.prog 13 #[.int .i64 v] w fun e w' => e = .returned (.int .u64 (zig v)) ∧ w = w' := by
  by_cases h : 0 ≤ v
  · go_enter Try.func13, Try.ntmps13
    go_wp2
    go_ret
    exact ⟨retU (zig_pos v h).symm, rfl⟩
  · go_enter Try.func13, Try.ntmps13
    go_wp2
    go_ret
    exact ⟨retU (by rw [zig_neg v (by omega)]; exact or1_u64 _ (by omega) (by omega)), rfl⟩
theorem zag_any (u : Nat) (h : u < 18446744073709551616) (w : World) : Calls Try.prog 15 #[.int .u64 u] w fun e w' => e = .returned (.int .i64 (zag u)) ∧ w = w' := by
  by_cases h2 : u % 2 = 0
  · have hq : ((u : Int) % 2 == 0) = true := beq_iff_eq.2 (by omega)
    have hz : ((u : Int) / 2) = zag u := by unfold zag; rw [if_pos h2]; omega
    have HZ := Lib.hid hz
    clear hz h2
    go_enter Try.func15, Try.ntmps15
    go_wp2
    go_ret
    exact ⟨retU HZ.out, rfl⟩
  · have hq : ((u : Int) % 2 == 0) = false := beq_eq_false_iff_ne.2 (by omega)
    have hz : -((u : Int) / 2) - 1 = zag u := by unfold zag; rw [if_neg h2]; omega
    have HZ := Lib.hid hz
    clear hz h2
    go_enter Try.func15, Try.ntmps15
    go_wp2
    go_ret
    exact ⟨retU HZ.out, rfl⟩
theorem ownRet_mono {B e size n : Nat} {cs : List Value} {P : Program} {f : FuncId} {args : Array Value} {w : World} (h : Calls P f args w (OwnRet B e size n cs w)) (R : Ending → World → Prop) (hR : ∀ v w', w'.ownsRow B e size v n cs → Below B w w' → R (.returned v) w') : Calls P f args w R :=
  h.mono fun _ _ ⟨v, he, h1, h2⟩ => he ▸ hR v _ h1 h2
theorem putInt_any (w : World) (b : Value) (n : Nat) (xs : List Int) (hr : Rd w 1 b n (byt xs)) (hn : n ≤ 1000000) (v : Int) (h0 : -9223372036854775808 ≤ v) (h1 : v ≤ 9223372036854775807) :
    Calls Try.prog 11 #[b, .int .i64 v] w (OwnRet w.heap.size 5 1 (n + (putVar (zig v)).length) (byt (xs ++ putVar (zig v))) w) := by
  by_cases h : 0 ≤ v
  · go_enter Try.func11, Try.ntmps11
    go_wp2_with fail
    rw [zig_xor_pos v h h1]
    refine ownRet_mono (put_any _ _ _ xs hr hn _ (zig_lt v h0 h1)) _ ?_
    intro r w1 hr1 hb1
    go_wp2_with fail
    go_ret
    exact ⟨r, rfl, hr1, hb1⟩
  · go_enter Try.func11, Try.ntmps11
    go_wp2_with fail
    rw [zig_xor_neg v (by omega) h0]
    refine ownRet_mono (put_any _ _ _ xs hr hn _ (zig_lt v h0 h1)) _ ?_
    intro r w1 hr1 hb1
    go_wp2_with fail
    go_ret
    exact ⟨r, rfl, hr1, hb1⟩
theorem readInt_any (w : World) (b : Value) (n : Nat) (xs : List Int) (hr : Rd w 1 b n (byt xs)) (hx : Bytes xs) (u k : Nat) (t : Bool) (hres : readRes (readVar xs) = (u, k, t)) :
    Calls Try.prog 12 #[b] w fun e w' => e = .returned (.tuple #[.int .i64 (zag u), .int .i64 k, .bool t]) ∧ w = w' := by
  have hu := readVar_lt xs hx u k t hres
  have HR := Lib.hid hres
  clear hres
  go_enter Try.func12, Try.ntmps12
  go_wp2_with fail
  refine (read_any _ _ _ xs hr hx u k t HR.out).mono ?_; rintro e w' ⟨rfl, rfl⟩
  go_wp2
  go_ret3
  exact ⟨ret3_int (zag_xor u hu), rfl⟩

/-- The reference's: onto a slice without room. -/
theorem rput_any (w : World) (ao : Option Addr) (n : Nat) (xs : List Int) (hr : Rd w 1 (.slice ao n n) n (byt xs)) (hn : n ≤ 1000000) (v : Nat) (hv : v < 18446744073709551616) :
    Calls Try.prog 9 #[.slice ao n n, .int .u64 v] w (OwnRet w.heap.size 5 1 (n + (putVar v).length) (byt (xs ++ putVar v)) w) := by
  go_enter Try.func9, Try.ntmps9
  go_wp2_with fail
  go_loopw [0, 1] (fun b u wr => ∃ (x : Nat) (ys : List Int), x < 18446744073709551616 ∧ u = .int .u64 x ∧ (ys = [] ∧ b = .slice ao n n ∧ wr = w ∨ wr.ownsRow w.heap.size 5 1 b (n + ys.length) (byt (xs ++ ys))) ∧ Below w.heap.size w wr ∧ ys.length + (putVar x).length ≤ 10 ∧ putVar v = ys ++ putVar x)
    (fun _ u _ => (intOf u).toNat)
  case atStart => exact ⟨v, [], hv, rfl, .inl ⟨rfl, rfl, rfl⟩, Below.refl _ _, by simpa using putVar_len v hv, rfl⟩
  case round =>
    obtain ⟨x, ys, hx, rfl, hown, hbw, hlen, heq⟩ := hrel
    have HL := Lib.hid hlen
    have HE := Lib.hid heq
    have hyl : ys.length ≤ 9 := by have := putVar_pos x; omega
    clear hlen heq
    have hsz := hbw.size
    rcases hown with ⟨rfl, rfl, rfl⟩ | hown
    · have hr2 := hr.below (Below.alloc (Below.refl wr.heap.size wr) (Nat.le_refl _) (.cells (byt [(x : Int) % 128 + 128]).toArray 5)) (Nat.le_refl _)
      have hr3 := hr.below (Below.alloc (Below.refl wr.heap.size wr) (Nat.le_refl _) (.cells (byt [(x : Int)]).toArray 5)) (Nat.le_refl _)
      have HR2 := Lib.hid hr2
      have HR3 := Lib.hid hr3
      have HR := Lib.hid hr
      clear hr hr2 hr3
      by_cases hlt : x < 128
      · have hp := putVar_lt x hlt
        have HP := Lib.hid hp
        clear hp
        go_wp2_with (at_builtin; refine app_full _ elemB rfl _ _ rfl ao n (byt xs) rfl HR3.out _ 1 (byt [(x : Int)]) rfl (rd_new _ _ _ _ _ (by simp) (by simp [maxLen])) (one_byt _) (by omega) (by simp only [maxLen]; omega) (by omega) ?_; intro v' w2 hown2 hg2)
        go_ret
        have e := HE.out
        rw [HP.out] at e
        refine ⟨v', rfl, ?_, below_of_grown_none ((Below.refl _ _).alloc (Nat.le_refl _) _) (by simp) hg2⟩
        rw [e, List.nil_append, byt_append]
        exact owns_mono hown2 (by simp)
      · have hp := putVar_ge x hlt
        have HP := Lib.hid hp
        clear hp
        go_wp2_with (at_builtin; refine app_full _ elemB rfl _ _ rfl ao n (byt xs) rfl HR2.out _ 1 (byt [(x : Int) % 128 + 128]) rfl (rd_new _ _ _ _ _ (by simp) (by simp [maxLen])) (one_byt _) (by omega) (by simp only [maxLen]; omega) (by omega) ?_; intro v' w2 hown2 hg2)
        go_roundw
        case rel =>
          have e := HE.out
          have hl := HL.out
          rw [HP.out] at e hl
          refine ⟨x / 128, [(x : Int) % 128 + 128], by omega, by go_num, .inr ?_, below_of_grown_none ((Below.refl _ _).alloc (Nat.le_refl _) _) (by simp) hg2, ?_, ?_⟩
          · rw [byt_append]; exact owns_mono hown2 (by simp)
          · simp only [List.length_cons, List.length_nil] at hl ⊢; omega
          · rw [e]; simp
        case measure => simp [intOf]; omega
    · by_cases hlt : x < 128
      · have hp := putVar_lt x hlt
        have HP := Lib.hid hp
        clear hp
        go_wp2_with (at_builtin; refine app_own _ elemB rfl _ _ rfl w.heap.size _ (n + ys.length) (byt (xs ++ ys)) rfl (hown.alloc _) _ 1 (byt [(x : Int)]) rfl (rd_new _ _ _ _ _ (by simp) (by simp [maxLen])) (one_byt _) (by simp only [maxLen]; omega) (by omega) (by simp; omega) ?_; intro v' w2 hown2 hg2)
        go_ret
        refine ⟨v', rfl, ?_, below_of_grown (hbw.alloc hsz _) (by simp; omega) (hown.alloc _) (Nat.le_refl _) rfl hg2⟩
        have e := HE.out
        rw [HP.out] at e
        rw [e, ← List.append_assoc, byt_append (xs ++ ys), List.length_append, ← Nat.add_assoc]
        exact hown2
      · have hp := putVar_ge x hlt
        have HP := Lib.hid hp
        clear hp
        go_wp2_with (at_builtin; refine app_own _ elemB rfl _ _ rfl w.heap.size _ (n + ys.length) (byt (xs ++ ys)) rfl (hown.alloc _) _ 1 (byt [(x : Int) % 128 + 128]) rfl (rd_new _ _ _ _ _ (by simp) (by simp [maxLen])) (one_byt _) (by simp only [maxLen]; omega) (by omega) (by simp; omega) ?_; intro v' w2 hown2 hg2)
        go_roundw
        case rel =>
          have e := HE.out
          have hl := HL.out
          rw [HP.out] at e hl
          refine ⟨x / 128, ys ++ [(x : Int) % 128 + 128], by omega, by go_num, .inr ?_, below_of_grown (hbw.alloc hsz _) (by simp; omega) (hown.alloc _) (Nat.le_refl _) rfl hg2, ?_, ?_⟩
          · rw [← List.append_assoc, byt_append (xs ++ ys), List.length_append, ← Nat.add_assoc]
            exact hown2
          · rw [List.length_append]; simp only [List.length_cons, List.length_nil] at hl ⊢; omega
          · rw [e]; simp
        case measure => simp [intOf]; omega
end Go.Proofs.Ytdnhlbpopohokaa
