/- Contracts of Wrap. -/
import Derived.Test.YtmdhiigonlnoiaaBox
import Derived.Lib.SlBytesConst
namespace Go.Proofs.Ytmdhiigonlnoiaa
open Go.RowKit Go.Waf
set_option maxRecDepth 100000
set_option linter.unusedVariables false
attribute [local go_sem] or128 mask127_u8

/-- A constant string's bytes, marked. -/
theorem rd_marked (w : World) (cs : List Value) (t : TypeId) (n size : Nat) (f : Nat × Nat) (hl : cs.length = n * size) (hm : n ≤ maxLen) : Rd (w.alloc (.cells cs.toArray t f)) size (.slice (some ⟨w.heap.size, 0, none⟩) n n) n cs :=
  Rd.of_cells hl (Nat.le_refl _) hm fun j u hu => by
    have hb : (w.alloc (.cells cs.toArray t f)).heap[w.heap.size]? = some (.cells cs.toArray t f) := heap_alloc_new w _
    rw [cell_of_row _ _ _ _ _ _ hb]
    simpa using hu
/-- What Wrap hands back. -/
def WrapRet (k : Int) (p : List Int) (w : World) (e : Ending) (w' : World) : Prop :=
  ∃ u, e = .returned (.tuple #[u, .int .i64 0]) ∧ w'.ownsRow w.heap.size 5 1 u (wrapB k p).length (byt (wrapB k p)) ∧ Below w.heap.size w w'

/-- The reference's PutVar, onto a slice of the call's own. -/
theorem rputOwn_any (w : World) (B : Nat) (b : Value) (n : Nat) (xs : List Int) (hown : w.ownsRow B 5 1 b n (byt xs)) (hB : B ≤ w.heap.size) (hn : n ≤ 1000000) (v : Nat) (hv : v < 18446744073709551616) :
    Calls Try.prog 60 #[b, .int .u64 v] w fun e w' => ∃ u, e = .returned u ∧ w'.ownsRow B 5 1 u (n + (putVar v).length) (byt (xs ++ putVar v)) ∧ Below B w w' := by
  go_enter Try.func60, Try.ntmps60
  go_wp2_with fail
  go_loopw [0, 1] (fun b u wr => ∃ (x : Nat) (ys : List Int), x < 18446744073709551616 ∧ u = .int .u64 x ∧ wr.ownsRow B 5 1 b (n + ys.length) (byt (xs ++ ys)) ∧ Below B w wr ∧ ys.length + (putVar x).length ≤ 10 ∧ putVar v = ys ++ putVar x)
    (fun _ u _ => (intOf u).toNat)
  case atStart => exact ⟨v, [], hv, rfl, by simpa using hown, Below.refl _ _, by simpa using putVar_len v hv, rfl⟩
  case round =>
    obtain ⟨x, ys, hx, rfl, hown, hbw, hlen, heq⟩ := hrel
    have HL := Lib.hid hlen
    have HE := Lib.hid heq
    have hyl : ys.length ≤ 9 := by have := putVar_pos x; omega
    clear hlen heq
    have hsz := hbw.size
    by_cases hlt : x < 128
    · have hp := putVar_lt x hlt
      have HP := Lib.hid hp
      clear hp
      go_wp2_with (at_builtin; refine app_own _ elemB rfl _ _ rfl B _ (n + ys.length) (byt (xs ++ ys)) rfl (hown.alloc _) _ 1 (byt [(x : Int)]) rfl (rd_new _ _ _ _ _ (by simp) (by simp [maxLen])) (one_byt _) (by simp only [maxLen]; omega) (by omega) (by simp; omega) ?_; intro v' w2 hown2 hg2)
      go_ret
      refine ⟨v', rfl, ?_, below_of_grown (hbw.alloc (by omega) _) (by simp; omega) (hown.alloc _) (Nat.le_refl _) rfl hg2⟩
      have e := HE.out
      rw [HP.out] at e
      rw [e, ← List.append_assoc, byt_append (xs ++ ys), List.length_append, ← Nat.add_assoc]
      exact hown2
    · have hp := putVar_ge x hlt
      have HP := Lib.hid hp
      clear hp
      go_wp2_with (at_builtin; refine app_own _ elemB rfl _ _ rfl B _ (n + ys.length) (byt (xs ++ ys)) rfl (hown.alloc _) _ 1 (byt [(x : Int) % 128 + 128]) rfl (rd_new _ _ _ _ _ (by simp) (by simp [maxLen])) (one_byt _) (by simp only [maxLen]; omega) (by omega) (by simp; omega) ?_; intro v' w2 hown2 hg2)
      go_roundw
      case rel =>
        have e := HE.out
        have hl := HL.out
        rw [HP.out] at e hl
        refine ⟨x / 128, ys ++ [(x : Int) % 128 + 128], by omega, by go_num, ?_, below_of_grown (hbw.alloc (by omega) _) (by simp; omega) (hown.alloc _) (Nat.le_refl _) rfl hg2, ?_, ?_⟩
        · rw [← List.append_assoc, byt_append (xs ++ ys), List.length_append, ← Nat.add_assoc]
          exact hown2
        · rw [List.length_append]; simp only [List.length_cons, List.length_nil] at hl ⊢; omega
        · rw [e]; simp
      case measure => simp [intOf]; omega

set_option maxHeartbeats 1600000 in
theorem wrap_any (w : World) (k : Int) (hk : 0 ≤ k ∧ k ≤ 255) (v : Value) (n : Nat) (p : List Int) (hr : Rd w 1 v n (byt p)) (hp : Bytes p) (hn : n ≤ 1000) :
    Calls Try.prog 46 #[.int .u8 k, v] w (WrapRet k p w) := by
  have hlen : p.length = n := by have := hr.1; simpa [byt] using this
  obtain ⟨va, vc, rfl, c1, c2, c3⟩ := rd_shape hr
  have kc := fun (w : World) (C : Array Value) (n c : Nat) => Lib.run_convert_bytes_const (P := Try.prog) w 33 5 C n c Try.underlying33 Try.underlying5
  have hr1 : Rd (w.alloc (.cells #[.int .u8 87, .int .u8 65, .int .u8 70, .int .u8 82] 5 (4, 5))) 1 (.slice (some ⟨w.heap.size, 0, none⟩) 4 4) 4 (byt sgn) := rd_marked w (byt sgn) _ 4 1 _ rfl (by simp [maxLen])
  have HR1 := Lib.hid (hr1.below ((Below.refl _ _).alloc (Nat.le_refl _) (.cells #[.int .u8 k] 5)) (Nat.le_refl _))
  have hrk : Rd ((w.alloc (.cells #[.int .u8 87, .int .u8 65, .int .u8 70, .int .u8 82] 5 (4, 5))).alloc (.cells #[.int .u8 k] 5)) 1 (.slice (some ⟨w.heap.size + 1, 0, none⟩) 1 1) 1 (byt [k]) := by
    have := rd_new (w.alloc (.cells #[.int .u8 87, .int .u8 65, .int .u8 70, .int .u8 82] 5 (4, 5))) (byt [k]) 5 1 1 rfl (by simp [maxLen])
    rwa [World.size_alloc] at this
  have HRK := Lib.hid hrk
  have R := Lib.hid hr
  have HL := Lib.hid hlen
  have HP := Lib.hid hp
  clear hr hlen hp hr1 hrk
  unfold maxLen at c2
  go_enter Try.func46, Try.ntmps46
  go_wp2_with (at_builtin; refine app_full _ elemB rfl _ _ rfl _ 4 (byt sgn) rfl HR1.out _ 1 (byt [k]) rfl HRK.out (one_byt _) (by omega) (by simp only [maxLen]; omega) (by omega) ?_; intro v1 w1 ho1 hg1; rw [← byt_append] at ho1)
  have b1 : Below w.heap.size w w1 := below_of_grown_none (((Below.refl _ _).alloc (Nat.le_refl _) _).alloc (by simp) _) (by simp; omega) hg1
  replace ho1 := owns_mono (base' := w.heap.size) ho1 (by simp; omega)
  refine ownRet_mono (put_any _ v1 5 (sgn ++ [k]) (rd_of_owns ho1) (by omega) n (by omega)) _ ?_
  intro v2 w2 ho2 b2
  have b2' := b1.trans (b2.mono b1.size)
  have ho2' := owns_mono ho2 b1.size
  have R2 := Lib.hid (R.out.below b2' (Nat.le_refl _))
  have HO2 := Lib.hid ho2'
  have B2 := Lib.hid b2'
  obtain ⟨P, hP⟩ : ∃ P, P = (putVar n).length := ⟨_, rfl⟩
  have hpl := putVar_len n (by omega)
  rw [← hP] at hpl
  have HPP := Lib.hid hP
  clear hP 
  go_wp2_with (at_builtin; refine app_own _ elemB rfl _ _ rfl w.heap.size v2 (5 + P) (byt (sgn ++ [k] ++ putVar n)) rfl (by rw [HPP.out]; exact HO2.out) _ n (byt p) rfl R2.out (one_byt _) (by simp only [maxLen]; omega) (by omega) B2.out.size ?_; intro v3 w3 ho3 hg3)
  have b3 : Below w.heap.size w w3 := below_of_grown B2.out B2.out.size HO2.out (Nat.le_refl _) rfl hg3
  obtain ⟨H, hH⟩ : ∃ H, H = headB k p := ⟨_, rfl⟩
  have hHe : sgn ++ [k] ++ putVar n ++ p = H := by rw [hH, headB, HL.out]
  have hHb : Bytes H := by
    rw [← hHe]
    intro x hx
    simp only [List.mem_append] at hx
    rcases hx with ((hx | hx) | hx) | hx
    · simp [sgn] at hx; omega
    · simp at hx; omega
    · exact putVar_bytes _ x hx
    · exact HP.out x hx
  rw [← byt_append, hHe] at ho3
  have HO3 := Lib.hid ho3
  have B3 := Lib.hid b3
  have HH := Lib.hid hH
  have HHB := Lib.hid hHb
  have hsb := sumOf_bounds H
  obtain ⟨S, hS⟩ : ∃ S, S = sumOf H := ⟨_, rfl⟩
  rw [← hS] at hsb
  have HS := Lib.hid hS
  have hsum := sum_any w3 v3 _ H (rd_of_owns ho3) hHb
  rw [← hS] at hsum
  have HSUM := Lib.hid hsum
  clear ho3 b3 hH hHe hHb hg3 hS hsum
  go_wp2_with fail
  refine HSUM.out.mono ?_; rintro e w4 ⟨rfl, rfl⟩
  go_wp2_with fail
  refine ownRet_mono (number_any _ S hsb.1 hsb.2) _ ?_
  intro v4 w4 ho4 b4
  have R4 := Lib.hid (rd_of_owns ho4)
  have b4' := B3.out.trans (b4.mono B3.out.size)
  have ho34 : w4.ownsRow w.heap.size 5 1 v3 (5 + P + n) (byt H) := (Fr.of_new (F := fun _ => False) b4).owns HO3.out (fun _ _ h => h)
  have HO34 := Lib.hid ho34
  have B4 := Lib.hid b4'
  clear ho4 b4 b4' ho34
  go_wp2_with (at_builtin; refine app_own _ elemB rfl _ _ rfl w.heap.size v3 (5 + P + n) (byt H) rfl HO34.out _ 4 (byt (four S)) rfl R4.out (one_byt _) (by simp only [maxLen]; omega) (by omega) B4.out.size ?_; intro v5 w5 ho5 hg5)
  go_ret2
  refine ⟨v5, rfl, ?_, below_of_grown B4.out B4.out.size HO34.out (Nat.le_refl _) rfl hg5⟩
  rw [wrapB_length, HL.out, ← HPP.out, wrapB, ← HH.out, ← HS.out, byt_append]
  exact ho5

set_option maxHeartbeats 1600000 in
theorem rwrap_any (w : World) (k : Int) (hk : 0 ≤ k ∧ k ≤ 255) (v : Value) (n : Nat) (p : List Int) (hr : Rd w 1 v n (byt p)) (hp : Bytes p) (hn : n ≤ 1000) :
    Calls Try.prog 47 #[.int .u8 k, v] w (WrapRet k p w) := by
  have hlen : p.length = n := by have := hr.1; simpa [byt] using this
  obtain ⟨va, vc, rfl, c1, c2, c3⟩ := rd_shape hr
  have kc := fun (w : World) (C : Array Value) (n c : Nat) => Lib.run_convert_bytes_const (P := Try.prog) w 33 5 C n c Try.underlying33 Try.underlying5
  have hr1 : Rd (w.alloc (.cells #[.int .u8 87, .int .u8 65, .int .u8 70, .int .u8 82] 5 (4, 5))) 1 (.slice (some ⟨w.heap.size, 0, none⟩) 4 4) 4 (byt sgn) := rd_marked w (byt sgn) _ 4 1 _ rfl (by simp [maxLen])
  have HR1 := Lib.hid (hr1.below ((Below.refl _ _).alloc (Nat.le_refl _) (.cells #[.int .u8 k] 5)) (Nat.le_refl _))
  have hrk : Rd ((w.alloc (.cells #[.int .u8 87, .int .u8 65, .int .u8 70, .int .u8 82] 5 (4, 5))).alloc (.cells #[.int .u8 k] 5)) 1 (.slice (some ⟨w.heap.size + 1, 0, none⟩) 1 1) 1 (byt [k]) := by
    have := rd_new (w.alloc (.cells #[.int .u8 87, .int .u8 65, .int .u8 70, .int .u8 82] 5 (4, 5))) (byt [k]) 5 1 1 rfl (by simp [maxLen])
    rwa [World.size_alloc] at this
  have HRK := Lib.hid hrk
  have R := Lib.hid hr
  have HL := Lib.hid hlen
  have HP := Lib.hid hp
  clear hr hlen hp hr1 hrk
  unfold maxLen at c2
  go_enter Try.func47, Try.ntmps47
  go_wp2_with (at_builtin; refine app_full _ elemB rfl _ _ rfl _ 4 (byt sgn) rfl HR1.out _ 1 (byt [k]) rfl HRK.out (one_byt _) (by omega) (by simp only [maxLen]; omega) (by omega) ?_; intro v1 w1 ho1 hg1; rw [← byt_append] at ho1)
  have b1 : Below w.heap.size w w1 := below_of_grown_none (((Below.refl _ _).alloc (Nat.le_refl _) _).alloc (by simp) _) (by simp; omega) hg1
  replace ho1 := owns_mono (base' := w.heap.size) ho1 (by simp; omega)
  refine (rputOwn_any _ w.heap.size v1 5 (sgn ++ [k]) ho1 b1.size (by omega) n (by omega)).mono ?_; rintro e w2 ⟨v2, rfl, ho2', b2⟩
  have b2' := b1.trans b2
  have R2 := Lib.hid (R.out.below b2' (Nat.le_refl _))
  have HO2 := Lib.hid ho2'
  have B2 := Lib.hid b2'
  obtain ⟨P, hP⟩ : ∃ P, P = (putVar n).length := ⟨_, rfl⟩
  have hpl := putVar_len n (by omega)
  rw [← hP] at hpl
  have HPP := Lib.hid hP
  clear hP 
  go_wp2_with (at_builtin; refine app_own _ elemB rfl _ _ rfl w.heap.size v2 (5 + P) (byt (sgn ++ [k] ++ putVar n)) rfl (by rw [HPP.out]; exact HO2.out) _ n (byt p) rfl R2.out (one_byt _) (by simp only [maxLen]; omega) (by omega) B2.out.size ?_; intro v3 w3 ho3 hg3)
  have b3 : Below w.heap.size w w3 := below_of_grown B2.out B2.out.size HO2.out (Nat.le_refl _) rfl hg3
  obtain ⟨H, hH⟩ : ∃ H, H = headB k p := ⟨_, rfl⟩
  have hHe : sgn ++ [k] ++ putVar n ++ p = H := by rw [hH, headB, HL.out]
  have hHb : Bytes H := by
    rw [← hHe]
    intro x hx
    simp only [List.mem_append] at hx
    rcases hx with ((hx | hx) | hx) | hx
    · simp [sgn] at hx; omega
    · simp at hx; omega
    · exact putVar_bytes _ x hx
    · exact HP.out x hx
  rw [← byt_append, hHe] at ho3
  have HO3 := Lib.hid ho3
  have B3 := Lib.hid b3
  have HH := Lib.hid hH
  have HHB := Lib.hid hHb
  have hsb := sumOf_bounds H
  obtain ⟨S, hS⟩ : ∃ S, S = sumOf H := ⟨_, rfl⟩
  rw [← hS] at hsb
  have HS := Lib.hid hS
  have hsum := rsum_any w3 v3 _ H (rd_of_owns ho3) hHb
  rw [← hS] at hsum
  have HSUM := Lib.hid hsum
  clear ho3 b3 hH hHe hHb hg3 hS hsum
  go_wp2_with fail
  refine HSUM.out.mono ?_; rintro e w4 ⟨rfl, rfl⟩
  go_wp2_with fail
  refine ownRet_mono (rfour_any _ S hsb.1 hsb.2) _ ?_
  intro v4 w4 ho4 b4
  have R4 := Lib.hid (rd_of_owns ho4)
  have b4' := B3.out.trans (b4.mono B3.out.size)
  have ho34 : w4.ownsRow w.heap.size 5 1 v3 (5 + P + n) (byt H) := (Fr.of_new (F := fun _ => False) b4).owns HO3.out (fun _ _ h => h)
  have HO34 := Lib.hid ho34
  have B4 := Lib.hid b4'
  clear ho4 b4 b4' ho34
  go_wp2_with (at_builtin; refine app_own _ elemB rfl _ _ rfl w.heap.size v3 (5 + P + n) (byt H) rfl HO34.out _ 4 (byt (four S)) rfl R4.out (one_byt _) (by simp only [maxLen]; omega) (by omega) B4.out.size ?_; intro v5 w5 ho5 hg5)
  go_ret2
  refine ⟨v5, rfl, ?_, below_of_grown B4.out B4.out.size HO34.out (Nat.le_refl _) rfl hg5⟩
  rw [wrapB_length, HL.out, ← HPP.out, wrapB, ← HH.out, ← HS.out, byt_append]
  exact ho5
end Go.Proofs.Ytmdhiigonlnoiaa
