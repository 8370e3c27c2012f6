/- Contracts of the walk's step, of verify.Heights. -/
import Derived.Test.YtlnldkciiphidaaVerify4
import Derived.WalkSmall
import Derived.Deep.QuietTactic
import Derived.BigQuiet
import Derived.RegionTactic
import Derived.StillTailTactics
namespace Go.Proofs.Ytlnldkciiphidaa
open Go.RowKit Go.Waf
set_option maxRecDepth 100000
set_option linter.unusedVariables false

def StepPost (V N : Nat → Int) (w0 : World) (q mb : Nat) (lv : Value) (n : Nat) (H : Nat → Int) (L : List Nat) (e : Ending) (w' : World) : Prop :=
  Below w0.heap.size w0 w' ∧ ((e = .returned (.bool false) ∧ ¬ Fine V N) ∨ ∃ H' L' tv', e = .returned (.bool true) ∧ WalkAt w0 w' q mb lv tv' n H' L' ∧ Known V N H' ∧ But V N H' L' (fun _ => False) ∧ 2 * (n - cnt H' n) + L'.length ≤ 2 * (n - cnt H n) + L.length ∧ (∀ j ∈ L', 0 ≤ H' j) ∧ ∀ j, 0 ≤ H j → H' j = H j)

set_option maxHeartbeats 3200000 in
theorem step_any (V N : Nat → Int) (w0 w : World) (q mb : Nat) (a : Option Addr) (n cap : Nat) (tv : Value) (hn : n ≤ 50000) (hp : PairsAt w0 .i64 .i32 a n cap V N) (hO : Okay V N n) (H : Nat → Int) (L : List Nat) (hL : 2 * (n - cnt H n) + L.length ≤ 200000)
    (hW : WalkAt w0 w q mb (.slice a n cap) tv n H L) (hK : Known V N H) (i : Nat) (hi : i < n) (h0 : 0 ≤ H i) (hB : But V N H L (fun j => j = i)) (hS : ∀ j ∈ L, 0 ≤ H j) :
    Calls Try.prog 20 #[.pointer (some ⟨q, 0, none⟩), .int .i64 i] w (StepPost V N w0 q mb (.slice a n cap) n H L) := by
  have hpw := hp.below hW.old (Nat.le_refl _)
  obtain ⟨ab, ao, rfl, habl, hcs⟩ := hpw.cells (by omega)
  obtain ⟨kv, kn⟩ := hcs i hi
  obtain ⟨hn0, hn1⟩ := rng_i32 (hpw.wf i hi).2
  have hop := okay_op hO hi
  have hle := hpw.le
  have hcap := hpw.cap63
  have hlow := hK.low i
  have hju := okay_jump hO hi
  have hne := okay_next hO hi
  have hqlt : q < w.heap.size := (Array.getElem?_eq_some_iff.1 hW.blk).1
  obtain ⟨v, hv⟩ : ∃ v, v = V i := ⟨_, rfl⟩
  obtain ⟨c, hc⟩ : ∃ c, c = N i := ⟨_, rfl⟩
  obtain ⟨x, hx⟩ : ∃ x, x = H i := ⟨_, rfl⟩
  obtain ⟨p, hpt⟩ : ∃ p, p = takesC v := ⟨_, rfl⟩
  obtain ⟨r, hrl⟩ : ∃ r, r = leavesC v := ⟨_, rfl⟩
  have hHi := hK.sound i h0
  have hth : thenC V i (H i) = x - p + r := by rw [hpt, hrl, hx, hv]; rfl
  have hpb := takes_le v
  have hrb := leaves_le v
  have hHj : p ≤ x → jumpsC v = true → Hi V N (N i).toNat (x - p + r) := fun h1 h2 => by rw [← hth]; exact .jump hHi (by rw [← hv, ← hpt, ← hx]; exact h1) (by rw [← hv]; exact h2)
  have hHn : p ≤ x → endsC v = false → Hi V N (i + 1) (x - p + r) := fun h1 h2 => by rw [← hth]; exact .next hHi (by rw [← hv, ← hpt, ← hx]; exact h1) (by rw [← hv]; exact h2)
  have hDone : ∀ H' : Nat → Int, H' i = x → p ≤ x → (jumpsC v = true → H' (N i).toNat = x - p + r) → (endsC v = false → H' (i + 1) = x - p + r) → Done V N H' i := fun H' h1 h2 h3 h4 => by
    have e : thenC V i (H' i) = x - p + r := by rw [h1, ← hth, hx]
    refine ⟨by rw [h1, ← hv, ← hpt]; exact h2, fun h => ?_, fun h => ?_⟩
    · rw [e]; exact h3 (by rw [hv]; exact h)
    · rw [e]; exact h4 (by rw [hv]; exact h)
  have hno : x < p → ¬ Fine V N := fun h => not_fine_takes hK h0 (by rw [← hx, ← hv, ← hpt]; exact h)
  have hMV := fun W => moves_any v (by rw [hv]; exact hop) W
  have hEN := fun W => ends_any v W
  rw [← hpt, ← hrl] at hMV
  rw [← hpt] at hpb
  rw [← hrl] at hrb
  rw [← hv] at kv hju hne
  rw [← hc] at kn hn0 hn1
  rw [← hx] at hlow h0
  obtain ⟨D, hown, hD⟩ := hW.map
  have hkey : keyOf Try.prog 3 (.int .i64 (i : Int)) = some (keyL i) := Go.Maps.keyOf_int_mk Try.underlying3 (WalkArith.wf_i64 (by omega))
  have hat := hD.at_ i (by rw [← hx]; exact h0)
  rw [← hx] at hat
  obtain ⟨b, hb⟩ : ∃ b, endsC v = b := ⟨_, rfl⟩
  rw [hb] at hEN hDone hHn hne
  have c0 : w.cell? ⟨q, 0, none⟩ = some (.slice (some ⟨ab, ao, none⟩) n cap) := by rw [cell_of_row w q 0 _ _ _ hW.blk]; rfl
  have HW := Lib.hid hW
  have HK := Lib.hid hK
  have HO := Lib.hid hown
  have HD := Lib.hid hD
  have HKEY := Lib.hid hkey
  have HAT := Lib.hid hat
  have HMV := Lib.hid hMV
  have HEN := Lib.hid hEN
  have HJU := Lib.hid hju
  have HNE := Lib.hid hne
  have HHJ := Lib.hid hHj
  have HHN := Lib.hid hHn
  have HDN := Lib.hid hDone
  have HNO := Lib.hid hno
  have HB := Lib.hid hB
  have HS := Lib.hid hS
  have HX := Lib.hid hx
  have HE := Lib.hid hb
  have HC := Lib.hid hc
  have HL := Lib.hid hL
  have HV := Lib.hid hv
  clear hpw hcs hp hO hW hK hown hD hkey hat hMV hEN hju hne hHj hHn hDone hno hB hS hx hb hc hL hv hop hHi hth hpt hrl
  go_enter Try.func20, Try.ntmps20
  go_wp2_with fail
  refine (HMV.out _).mono ?_; rintro e w1 ⟨rfl, hw1⟩
  have hb1 : Below w.heap.size w w1 := by rw [← hw1]; exact (Below.refl _ _).alloc (Nat.le_refl _) _
  have d0 : w1.cell? ⟨w.heap.size, 0, none⟩ = some (.int .i64 v) := by rw [← hw1, World.cell?_alloc_new]; rfl
  have d1 : w1.cell? ⟨w.heap.size, 1, none⟩ = some (.int .i32 c) := by rw [← hw1, World.cell?_alloc_new]; rfl
  have hc1 : w1.cell? ⟨q, 1, none⟩ = some (.map (some mb)) := by rw [cell_of_row w1 q 1 _ _ _ (HW.out.keep hb1).blk]; rfl
  have hsz1 : w.heap.size < w1.heap.size := by rw [← hw1]; simp
  have hO1 : w1.ownsMap Try.prog 3 (plainElem (H := Unit) Try.prog 3) mb (cnt H n) D := by rw [← hw1]; exact HO.out.alloc _
  have HW1 := Lib.hid (HW.out.keep hb1)
  have HO1 := Lib.hid hO1
  have HSZ1 := Lib.hid hsz1
  have HTV := Lib.hid (show ∀ k, tv.ownBlock = some k → k = w.heap.size → False from fun k hk e => by have := (HW.out.row.lt k hk).2; omega)
  have HMB := Lib.hid HO.out.lt
  clear hw1 hb1 hO1 HO HW kv kn c0 hsz1
  by_cases hxp : x < p
  · have hnf := HNO.out hxp
    go_wp2_with (at_lookup; refine wpList_lookup_own_int _ rfl _ _ 43 rfl 3 3 .i64 lawI Try.underlying43 Try.underlying3 (zeroI _) mb _ _ rfl HO1.out _ _ rfl HKEY.out ?_; intro c2 hc2 _; rw [HAT.out] at hc2; simp only [DataW.lit.injEq, Lit.int.injEq, true_and] at hc2; subst hc2)
    go_ret
    exact ⟨HW1.out.old, .inl ⟨rfl, hnf⟩⟩
  · have hpx : p ≤ x := by omega
    have hlt2 : ∀ j, 0 ≤ H j → 0 ≤ H j := fun _ h => h
    clear hlt2
    by_cases hj : jumpsC v = true
    · obtain ⟨hj0, hj1⟩ := HJU.out hj
      obtain ⟨t, ht⟩ : ∃ t : Nat, c = t := ⟨c.toNat, by have := HC.out; omega⟩
      have htN : (N i).toNat = t := by rw [← HC.out, ht]; simp
      have hHt := HHJ.out hpx hj
      rw [htN] at hHt
      have htn : t < n := by rw [← HC.out, ht] at hj1; omega
      have HHT := Lib.hid hHt
      have HTN := Lib.hid htN
      subst ht
      have hvv : v = 25 ∨ v = 26 := by simpa [jumpsC] using hj
      have HJ := Lib.hid hj
      clear hHt htN hj hj0 hj1
      rcases hvv with hvv | hvv
      · have e25 : (v == 25) = true := by simp [hvv]
        obtain rfl : b = true := by rw [← HE.out, hvv]; rfl
        clear hvv
        go_wp2_with (at_lookup; refine wpList_lookup_own_int _ rfl _ _ 43 rfl 3 3 .i64 lawI Try.underlying43 Try.underlying3 (zeroI _) mb _ _ rfl HO1.out _ _ rfl HKEY.out ?_; intro c2 hc2 _; rw [HAT.out] at hc2; simp only [DataW.lit.injEq, Lit.int.injEq, true_and] at hc2; subst hc2)
        refine (reach_any V N w0 w1 q mb _ tv n (by omega) H L (by have := HL.out; omega) HW1.out HK.out t (x - p + r) htn HHT.out (by omega)).mono ?_
        rintro e w2 ⟨hbw, hfr, h | ⟨H2, L2, tv2, rfl, hW2, hK2, hB2, hE2, hT2, hM2, hS2⟩⟩
        · obtain ⟨rfl, hnf, _⟩ := h
          go_wp2_with fail
          go_ret
          exact ⟨hbw, .inl ⟨rfl, hnf⟩⟩
        · have e0 : w2.cell? ⟨w.heap.size, 0, none⟩ = some (.int .i64 v) := by
            rw [hfr.cell (p := ⟨w.heap.size, 0, none⟩) HSZ1.out (by
              have h1 := HW1.out.row.lt
              have h2 := HMB.out
              have h3 := HTV.out
              rintro (h | h | h)
              · simp at h; omega
              · simp at h; omega
              · exact h3 _ h rfl)]
            exact d0
          have hs2 : ∀ j ∈ L2, 0 ≤ H2 j := fun j hj => by
            rcases hS2 j hj with h | h
            · have h5 := HS.out j h; rw [hE2 j h5]; exact h5
            · rw [h, hT2]; omega
          have hx2 : H2 i = x := by rw [hE2 i (by rw [← HX.out]; omega), HX.out]
          have HS2 := Lib.hid hs2
          have HE2 := Lib.hid hE2
          have HX2 := Lib.hid hx2
          have HT2 := Lib.hid hT2
          have HW2 := Lib.hid hW2
          have HK2 := Lib.hid hK2
          have HB2 := Lib.hid (hB2 _ HB.out)
          have HM2 := Lib.hid hM2
          have HBW := Lib.hid hbw
          clear hbw hfr hE2 hS2 hs2 hx2 hT2 hW2 hK2 hB2 hM2 d0 d1 hc1
          go_wp2_with fail
          refine (HEN.out _).mono ?_; rintro e w3 ⟨rfl, rfl⟩
          go_wp2_with fail
          go_ret
          exact ⟨HBW.out, .inr ⟨H2, L2, tv2, rfl, HW2.out, HK2.out, HB2.out.shut (HDN.out H2 HX2.out hpx (fun _ => by rw [HTN.out]; exact HT2.out) (fun h => by cases h)), HM2.out, HS2.out, HE2.out⟩⟩
      · have e25 : (v == 25) = false := by simp [hvv]
        have e26 : (v == 26) = true := by simp [hvv]
        obtain rfl : b = false := by rw [← HE.out, hvv]; rfl
        clear hvv
        go_wp2_with (at_lookup; refine wpList_lookup_own_int _ rfl _ _ 43 rfl 3 3 .i64 lawI Try.underlying43 Try.underlying3 (zeroI _) mb _ _ rfl HO1.out _ _ rfl HKEY.out ?_; intro c2 hc2 _; rw [HAT.out] at hc2; simp only [DataW.lit.injEq, Lit.int.injEq, true_and] at hc2; subst hc2)
        refine (reach_any V N w0 w1 q mb _ tv n (by omega) H L (by have := HL.out; omega) HW1.out HK.out t (x - p + r) htn HHT.out (by omega)).mono ?_
        rintro e w2 ⟨hbw, hfr, h | ⟨H2, L2, tv2, rfl, hW2, hK2, hB2, hE2, hT2, hM2, hS2⟩⟩
        · obtain ⟨rfl, hnf, _⟩ := h
          go_wp2_with fail
          go_ret
          exact ⟨hbw, .inl ⟨rfl, hnf⟩⟩
        · have e0 : w2.cell? ⟨w.heap.size, 0, none⟩ = some (.int .i64 v) := by
            rw [hfr.cell (p := ⟨w.heap.size, 0, none⟩) HSZ1.out (by
              have h1 := HW1.out.row.lt
              have h2 := HMB.out
              have h3 := HTV.out
              rintro (h | h | h)
              · simp at h; omega
              · simp at h; omega
              · exact h3 _ h rfl)]
            exact d0
          have hs2 : ∀ j ∈ L2, 0 ≤ H2 j := fun j hj => by
            rcases hS2 j hj with h | h
            · have h5 := HS.out j h; rw [hE2 j h5]; exact h5
            · rw [h, hT2]; omega
          have hx2 : H2 i = x := by rw [hE2 i (by rw [← HX.out]; omega), HX.out]
          have HS2 := Lib.hid hs2
          have HE2 := Lib.hid hE2
          have HX2 := Lib.hid hx2
          have HT2 := Lib.hid hT2
          have HW2 := Lib.hid hW2
          have HK2 := Lib.hid hK2
          have HB2 := Lib.hid (hB2 _ HB.out)
          have HM2 := Lib.hid hM2
          have HBW := Lib.hid hbw
          clear hbw hfr hE2 hS2 hs2 hx2 hT2 hW2 hK2 hB2 hM2 d0 d1 hc1
          have hHn := HHN.out hpx (by first | trivial | rfl)
          have hlt := HNE.out (by first | trivial | rfl)
          have HHN2 := Lib.hid hHn
          clear hHn
          go_wp2_with fail
          refine (HEN.out _).mono ?_; rintro e w3 ⟨rfl, rfl⟩
          go_wp2_with fail
          refine (reach_any V N w0 w2 q mb _ tv2 n (by omega) H2 L2 (by have := HL.out; have := HM2.out; omega) HW2.out HK2.out (i + 1) (x - p + r) hlt HHN2.out (by omega)).mono ?_
          rintro e w4 ⟨hbw, hfr, h | ⟨H4, L4, tv4, rfl, hW4, hK4, hB4, hE4, hT4, hM4, hS4⟩⟩
          · obtain ⟨rfl, hnf, _⟩ := h
            go_wp2_with fail
            go_ret
            exact ⟨hbw, .inl ⟨rfl, hnf⟩⟩
          · have hs4 : ∀ j ∈ L4, 0 ≤ H4 j := fun j hj => by
              rcases hS4 j hj with h | h
              · have h5 := HS2.out j h; rw [hE4 j h5]; exact h5
              · rw [h, hT4]; omega
            have hx4 : H4 i = x := by rw [hE4 i (by rw [HX2.out]; omega), HX2.out]
            have ht4 : H4 t = x - p + r := by rw [hE4 t (by rw [HT2.out]; omega), HT2.out]
            have HR := Lib.hid (show StepPost V N w0 q mb _ n H L (.returned (.bool true)) w4 from ⟨hbw, .inr ⟨H4, L4, tv4, rfl, hW4, hK4, (hB4 _ HB2.out).shut (HDN.out H4 hx4 hpx (fun _ => by rw [HTN.out]; exact ht4) (fun _ => hT4)), Nat.le_trans hM4 HM2.out, hs4, fun j hj => by rw [hE4 j (by rw [HE2.out j hj]; exact hj), HE2.out j hj]⟩⟩)
            clear hbw hfr hW4 hK4 hB4 hE4 hT4 hM4 hS4 hs4 hx4 ht4
            go_wp2_with fail
            go_ret
            exact HR.out
    · have hjf : jumpsC v = false := by simpa using hj
      have e25 : (v == 25) = false := by simp [jumpsC] at hjf; simp [hjf.1]
      have e26 : (v == 26) = false := by simp [jumpsC] at hjf; simp [hjf.2]
      have HJF := Lib.hid hjf
      clear hjf hj
      cases b with
      | true =>
        go_wp2_with (at_lookup; refine wpList_lookup_own_int _ rfl _ _ 43 rfl 3 3 .i64 lawI Try.underlying43 Try.underlying3 (zeroI _) mb _ _ rfl HO1.out _ _ rfl HKEY.out ?_; intro c2 hc2 _; rw [HAT.out] at hc2; simp only [DataW.lit.injEq, Lit.int.injEq, true_and] at hc2; subst hc2)
        refine (HEN.out _).mono ?_; rintro e w3 ⟨rfl, rfl⟩
        go_wp2_with fail
        go_ret
        exact ⟨HW1.out.old, .inr ⟨H, L, tv, rfl, HW1.out, HK.out, HB.out.shut (HDN.out H HX.out.symm hpx (fun h => by rw [HJF.out] at h; cases h) (fun h => by cases h)), Nat.le_refl _, HS.out, fun _ _ => rfl⟩⟩
      | false =>
        have hHn := HHN.out hpx (by first | rfl | trivial)
        have hlt := HNE.out (by first | rfl | trivial)
        have HHN2 := Lib.hid hHn
        clear hHn
        go_wp2_with (at_lookup; refine wpList_lookup_own_int _ rfl _ _ 43 rfl 3 3 .i64 lawI Try.underlying43 Try.underlying3 (zeroI _) mb _ _ rfl HO1.out _ _ rfl HKEY.out ?_; intro c2 hc2 _; rw [HAT.out] at hc2; simp only [DataW.lit.injEq, Lit.int.injEq, true_and] at hc2; subst hc2)
        refine (HEN.out _).mono ?_; rintro e w3 ⟨rfl, rfl⟩
        go_wp2_with fail
        refine (reach_any V N w0 w1 q mb _ tv n (by omega) H L (by have := HL.out; omega) HW1.out HK.out (i + 1) (x - p + r) hlt HHN2.out (by omega)).mono ?_
        rintro e w4 ⟨hbw, hfr, h | ⟨H4, L4, tv4, rfl, hW4, hK4, hB4, hE4, hT4, hM4, hS4⟩⟩
        · obtain ⟨rfl, hnf, _⟩ := h
          go_wp2_with fail
          go_ret
          exact ⟨hbw, .inl ⟨rfl, hnf⟩⟩
        · have hs4 : ∀ j ∈ L4, 0 ≤ H4 j := fun j hj => by
            rcases hS4 j hj with h | h
            · have h5 := HS.out j h; rw [hE4 j h5]; exact h5
            · rw [h, hT4]; omega
          have hx4 : H4 i = x := by rw [hE4 i (by rw [← HX.out]; omega), HX.out]
          have HR := Lib.hid (show StepPost V N w0 q mb _ n H L (.returned (.bool true)) w4 from ⟨hbw, .inr ⟨H4, L4, tv4, rfl, hW4, hK4, (hB4 _ HB.out).shut (HDN.out H4 hx4 hpx (fun h => by rw [HJF.out] at h; cases h) (fun _ => hT4)), hM4, hs4, hE4⟩⟩)
          clear hbw hfr hW4 hK4 hB4 hE4 hT4 hM4 hS4 hs4 hx4
          go_wp2_with fail
          go_ret
          exact HR.out
end Go.Proofs.Ytlnldkciiphidaa
