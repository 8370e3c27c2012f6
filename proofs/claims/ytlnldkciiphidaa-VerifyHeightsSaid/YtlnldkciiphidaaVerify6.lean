/- The contract of verify.Heights. -/
import Derived.Test.YtlnldkciiphidaaVerify5
import Derived.Deep.LoopGhost
namespace Go.Proofs.Ytlnldkciiphidaa
open Go.RowKit Go.Waf
set_option maxRecDepth 100000
set_option linter.unusedVariables false

def HRes (V N : Nat → Int) (n : Nat) (w : World) (e : Ending) (w' : World) : Prop :=
  Below w.heap.size w w' ∧ (((Okay V N n ∧ Fine V N) ∧ ∃ v, e = .returned (.tuple #[v, .bool true]) ∧ Rd w' 1 v n (ints (hList V N n))) ∨ (¬ (Okay V N n ∧ Fine V N) ∧ e = .returned (.tuple #[.slice none 0 0, .bool false])))

theorem check_good (w : World) (a : Option Addr) (n cap : Nat) (V N : Nat → Int) (hp : PairsAt w .i64 .i32 a n cap V N) (hO : Okay V N n) :
    Calls Try.prog 7 #[.slice a n cap] w fun e w' => e = .returned (.tuple #[.int .i64 0, .int .i64 0]) ∧ Below w.heap.size w w' :=
  (check_any w a n cap V N hp).mono fun e w' ⟨he, hb⟩ => ⟨by rw [he, if_neg (by rw [hO.2]; omega), if_neg (by have := hO.1; omega)], hb⟩
theorem check_ill (w : World) (a : Option Addr) (n cap : Nat) (V N : Nat → Int) (hp : PairsAt w .i64 .i32 a n cap V N) (hO : ¬ Okay V N n) :
    Calls Try.prog 7 #[.slice a n cap] w fun e w' => (∃ x : Int, e = .returned (.tuple #[.int .i64 x, .int .i64 23])) ∧ Below w.heap.size w w' :=
  (check_any w a n cap V N hp).mono fun e w' ⟨he, hb⟩ => ⟨by
    by_cases h : firstBad V N n < n
    · exact ⟨_, by rw [he, if_pos h]⟩
    · have := firstBad_le V N n
      have h0 : n = 0 := by
        rcases Nat.eq_zero_or_pos n with h0 | h0
        · exact h0
        · exact absurd ⟨h0, by omega⟩ hO
      exact ⟨_, by rw [he, if_neg h, if_pos h0]⟩, hb⟩
theorem lits_length (L : List Nat) : (lits L).length = L.length := by simp [lits]
theorem list_snoc {α : Type} (L : List α) (h : 0 < L.length) : ∃ L' x, L = L' ++ [x] := by
  rcases List.eq_nil_or_concat L with rfl | ⟨L', x, rfl⟩
  · simp at h
  · exact ⟨L', x, by simp⟩

theorem walk_start (w w1 : World) (a : Option Addr) (n cap : Nat) (hb : Below w.heap.size w w1) (T : TypeId) (hT : T = 45) :
    WalkAt w ((w1.alloc (.map #[] 0)).alloc (.cells #[.slice a n cap, .map (some w1.heap.size), .slice none 0 0] T)) (w1.heap.size + 1) w1.heap.size (.slice a n cap) (.slice none 0 0) n (fun _ => -1) [] := by
  subst hT
  have hs := hb.size
  have c0 : cnt (fun _ => -1) n = 0 := by simp [cnt]
  refine ⟨?_, ⟨.map [], ?_, mapIs_start⟩, World.ownsRow_nil _ _ _ _, by omega, hs, by omega, by simp [Value.ownBlock], by simp [Value.ownBlock], (hb.alloc hs _).alloc (by simp; omega) _⟩
  · exact heap_alloc2_new w1 _ _
  · rw [c0]
    exact (World.ownsMap_made _ _ _ _).alloc _

theorem walk_pop (w0 w : World) (q mb : Nat) (lv : Value) (g cap n : Nat) (H : Nat → Int) (L : List Nat) (i m : Nat) (hm : m = L.length)
    (hW : WalkAt w0 w q mb lv (.slice (some ⟨g, 0, none⟩) (m + 1) cap) n H (L ++ [i])) : WalkAt w0 (w.setCell ⟨q, 2, none⟩ (.slice (some ⟨g, 0, none⟩) m cap)) q mb lv (.slice (some ⟨g, 0, none⟩) m cap) n H L := by
  subst hm
  obtain ⟨D, h1, h2⟩ := hW.map
  have hr := hW.row
  have e1 : lits (L ++ [i]) = lits L ++ [(i : Int)] := by simp [lits]
  rw [e1, ints_append, List.length_append] at hr
  have hr2 := ownsRow_pop (n := L.length) (by rw [ints_length, lits_length]; omega) hr
  refine ⟨by rw [heap_setCell_same w q 2 _ _ _ hW.blk]; rfl, ⟨D, h1.setCell (Ne.symm hW.ne) _, h2⟩, owns_set_other hr2 _ _ hW.tq, hW.bq, hW.bm, hW.ne, hW.tq, hW.tm, hW.old.setCell hW.bq _⟩
theorem WalkAt.drewN {w0 w : World} {q mb : Nat} {lv tv : Value} {n : Nat} {H : Nat → Int} {L : List Nat} (h : WalkAt w0 w q mb lv tv n H L) (m : Nat) : WalkAt w0 (w.drewN m) q mb lv tv n H L :=
  ⟨h.blk, h.map, h.row, h.bq, h.bm, h.ne, h.tq, h.tm, below_drewN h.old m⟩

set_option maxHeartbeats 6400000 in
theorem heights_any (w : World) (a : Option Addr) (n cap : Nat) (V N : Nat → Int) (hn : n ≤ 50000) (hp : PairsAt w .i64 .i32 a n cap V N) :
    Calls Try.prog 9 #[.slice a n cap] w (HRes V N n w) := by
  have hle := hp.le
  have hcap := hp.cap63
  have HP := Lib.hid hp
  by_cases hok : Okay V N n
  · have HCK := Lib.hid (check_good w a n cap V N hp hok)
    have hn0 := hok.1
    have HOK := Lib.hid hok
    have hmm := @run_makeMap Try.prog
    clear hok hp
    go_enter Try.func9, Try.ntmps9
    go_wp2_with fail
    refine HCK.out.mono ?_; rintro e w1 ⟨rfl, hb1⟩
    have HS := Lib.hid (reach_any V N w _ _ _ _ _ n (by omega) (fun _ => -1) [] (by simp) (walk_start w w1 a n cap hb1 _ rfl) (known_start V N) 0 0 hn0 .start (by omega))
    clear hb1
    go_wp2_with fail
    refine HS.out.mono ?_
    rintro e w2 ⟨hbw, hfr, h | ⟨H2, L2, tv2, rfl, hW2, hK2, hB2, hE2, hT2, hM2, hS2⟩⟩
    · obtain ⟨rfl, hnf, h⟩ := h
      simp at h
    · have hs2 : ∀ j ∈ L2, 0 ≤ H2 j := fun j hj => by
        rcases hS2 j hj with h | h
        · simp at h
        · rw [h, hT2]; omega
      have hm2 : 2 * (n - cnt H2 n) + L2.length ≤ 2 * n := by simpa [cnt] using hM2
      have HST := Lib.hid (show ∃ H L tv, WalkAt w w2 (w1.heap.size + 1) w1.heap.size (.slice a n cap) tv n H L ∧ Known V N H ∧ But V N H L (fun _ => False) ∧ H 0 = 0 ∧ (∀ j ∈ L, 0 ≤ H j) ∧ 2 * (n - cnt H n) + L.length ≤ 2 * n from ⟨H2, L2, tv2, hW2, hK2, hB2 _ (but_start V N), hT2, hs2, hm2⟩)
      clear hbw hfr hW2 hK2 hB2 hE2 hT2 hM2 hS2 hs2 hm2
      go_wp2_with fail
      go_loopg [7] (2 * n) (fun k _ wr => ∃ H L tv, WalkAt w wr (w1.heap.size + 1) w1.heap.size (.slice a n cap) tv n H L ∧ Known V N H ∧ But V N H L (fun _ => False) ∧ H 0 = 0 ∧ (∀ j ∈ L, 0 ≤ H j) ∧ 2 * (n - cnt H n) + L.length ≤ k ∧ k ≤ 2 * n)
      case atStart =>
        obtain ⟨H, L, tv, h1, h2, h3, h4, h5, h6⟩ := HST.out
        exact ⟨H, L, tv, h1, h2, h3, h4, h5, h6, Nat.le_refl _⟩
      case round =>
        obtain ⟨H, L, tv, hW, hK, hB, hF, hS, hM, hk2⟩ := hrel
        clear HST
        by_cases hl : 0 < L.length
        · obtain ⟨L', i, rfl⟩ := list_snoc L hl
          obtain ⟨m, hm⟩ : ∃ m, m = L'.length := ⟨_, rfl⟩
          have hlen : (L' ++ [i]).length = m + 1 := by rw [List.length_append, hm]; rfl
          have hrow := hW.row
          rw [hlen] at hrow hM
          obtain ⟨g, tc, rfl, hgb, hgs, htc1, htc2⟩ := owns_some hrow (by omega)
          have c2 : wr.cell? ⟨w1.heap.size + 1, 2, none⟩ = some (.slice (some ⟨g, 0, none⟩) (m + 1) tc) := by rw [cell_of_row wr _ 2 _ _ _ hW.blk]; rfl
          have f2 := frozen_of_row wr (w1.heap.size + 1) 2 _ _ hW.blk
          have ct : wr.cell? ⟨g, m, none⟩ = some (.int .i64 (i : Int)) := by
            rw [hrow.cellAt m (by omega), ints_get _ _ (by rw [lits_length, hlen]; omega)]
            simp [lits, hm]
          have h0i := hS i (by simp)
          have hin : i < n := (hK.sound i h0i).lt HOK.out
          have hw0 : IntKind.i64.wrap ((m : Int) + 1 - 1) = (m : Int) := by rw [IntWalk.i64_in _ (by omega)]; omega
          have hw1 : IntKind.i64.wrap (m : Int) = (m : Int) := by rw [IntWalk.i64_in _ (by omega)]
          have HW := Lib.hid hW
          have HK := Lib.hid hK
          have HB := Lib.hid hB
          have HF := Lib.hid hF
          have HSS := Lib.hid hS
          have HM := Lib.hid hM
          have HML := Lib.hid hm
          have HROW := Lib.hid hrow
          clear hW hK hB hF hS hM hm hlen hrow hl
          go_wp2_with fail
          go_quiet (fail)
          go_wp2_with fail
          go_region
          go_wp2_with fail
          refine (step_any V N w _ _ _ a n cap _ hn HP.out HOK.out H L' (by have := HM.out; have := HML.out; have := cnt_le H n; omega) (walk_pop w _ _ _ _ g tc n H L' i m HML.out (HW.out.drewN (nq + 1))) HK.out i hin h0i HB.out.pop (fun j hj => HSS.out j (by simp [hj]))).mono ?_
          rintro e w3 ⟨hbw, h | ⟨H3, L3, tv3, rfl, hW3, hK3, hB3, hM3, hS3, hE3⟩⟩
          · obtain ⟨rfl, hnf⟩ := h
            go_wp2_with fail
            go_ret2
            exact ⟨hbw, .inr ⟨fun h => hnf h.2, rfl⟩⟩
          · have hF3 : H3 0 = 0 := by rw [hE3 0 (by rw [HF.out]; omega), HF.out]
            have hM4 : 2 * (n - cnt H3 n) + L3.length < gk := by have := HM.out; have := HML.out; omega
            have HR := Lib.hid (show ∃ H L tv, WalkAt w w3 (w1.heap.size + 1) w1.heap.size (.slice a n cap) tv n H L ∧ Known V N H ∧ But V N H L (fun _ => False) ∧ H 0 = 0 ∧ (∀ j ∈ L, 0 ≤ H j) ∧ 2 * (n - cnt H n) + L.length ≤ 2 * (n - cnt H3 n) + L3.length ∧ 2 * (n - cnt H3 n) + L3.length ≤ 2 * n from ⟨H3, L3, tv3, hW3, hK3, hB3, hF3, hS3, Nat.le_refl _, by omega⟩)
            have HM4 := Lib.hid hM4
            clear hbw hW3 hK3 hB3 hM3 hS3 hE3 hF3 hM4
            go_wp2_with fail
            go_roundg (2 * (n - cnt H3 n) + L3.length)
            case rel => exact HR.out
            case measure => exact HM4.out
        · obtain rfl : L = [] := List.eq_nil_of_length_eq_zero (by omega)
          have hD := fun i hi => (hB i hi).resolve_left (by simp) |>.resolve_left (fun h => h)
          have hfine := fine_of_done hK hF hD
          have hHO := hOf_eq hK hF hD
          obtain ⟨D, hown, hMI⟩ := hW.map
          have hls : hList V N n = (List.range n).map H := by unfold hList; exact List.map_congr_left fun j _ => hHO j
          obtain ⟨ta, tc, rfl, tc1, tc2, tc3⟩ := owns_shape hW.row
          obtain ⟨wo, rfl⟩ : ∃ wo : World, wo = wr := ⟨_, rfl⟩
          have c1 : wo.cell? ⟨w1.heap.size + 1, 1, none⟩ = some (.map (some w1.heap.size)) := by rw [cell_of_row wo _ 1 _ _ _ hW.blk]; rfl
          have c2 : wo.cell? ⟨w1.heap.size + 1, 2, none⟩ = some (.slice ta 0 tc) := by rw [cell_of_row wo _ 2 _ _ _ hW.blk]; rfl
          have hqb : w1.heap.size + 1 < wo.heap.size := (Array.getElem?_eq_some_iff.1 hW.blk).1
          have hos := hW.old.size
          have HLOW := Lib.hid hK.low
          have HNONE := Lib.hid hK.none
          have HOLD := Lib.hid hW.old
          have HFINE := Lib.hid hfine
          have HLS := Lib.hid hls
          have HO := Lib.hid hown
          have HMI := Lib.hid hMI
          clear hW hK hB hF hS hM hD hfine hHO hls hown hMI hl
          go_wp2_with fail
          go_loopw [8, 63] (fun v i wz => ∃ k : Nat, k ≤ n ∧ i = .int .i64 (k : Int) ∧ wz.ownsRow wo.heap.size 3 1 v k (ints ((List.range k).map H)) ∧ Below wo.heap.size wo wz) (fun _ i _ => n - (intOf i).toNat)
          case atStart => exact ⟨0, by omega, rfl, World.ownsRow_nil _ _ _ _, Below.refl _ _⟩
          case round =>
            obtain ⟨k, hk, rfl, hrow, hb⟩ := hrel
            have hbs := hb.size
            by_cases hlt : k < n
            · have hg : wo.grownBy wr none := ⟨hb.os, hb.tape, hb.output, hb.size, fun j hj _ => hb.block j hj⟩
              have ho := HO.out.kept hg (by simp)
              have d1 : wr.cell? ⟨w1.heap.size + 1, 1, none⟩ = some (.map (some w1.heap.size)) := cell_below hb (Nat.le_refl _) c1
              have hkey : keyOf Try.prog 3 (.int .i64 (k : Int)) = some (keyL k) := Go.Maps.keyOf_int_mk Try.underlying3 (WalkArith.wf_i64 (by omega))
              have hat := HMI.out.at_ k
              have hhas := HMI.out.has k
              have hlow := HLOW.out k
              have hnone := HNONE.out k
              obtain ⟨x, hx⟩ : ∃ x, x = H k := ⟨_, rfl⟩
              rw [← hx] at hat hhas hlow hnone
              have e1 : (List.range (k + 1)).map H = (List.range k).map H ++ [x] := by rw [List.range_succ, List.map_append, hx]; rfl
              have HE := Lib.hid e1
              have HROW := Lib.hid hrow
              have HB := Lib.hid hb
              have HO2 := Lib.hid ho
              have HKEY := Lib.hid hkey
              have HAT := Lib.hid hat
              clear hg ho hkey hat hx e1 hrow hb
              by_cases hs : 0 ≤ x
              · have hh : Maps.has D (keyL k) = true := by rw [hhas]; simp [hs]
                have HH := Lib.hid hh
                have HA := Lib.hid (HAT.out hs)
                clear hhas hh hnone
                go_wp2_with (first | (at_lookup; refine wpList_lookup_own_ok_int _ rfl _ _ 43 rfl 3 3 .i64 lawI Try.underlying43 Try.underlying3 (zeroI _) w1.heap.size _ _ rfl HO2.out _ _ rfl HKEY.out ?_; rw [HH.out]; intro c hc2 _; rw [HA.out] at hc2; simp only [DataW.lit.injEq, Lit.int.injEq, true_and] at hc2; subst hc2) | (at_builtin; refine app_own _ elemInt rfl _ _ rfl wo.heap.size _ k _ rfl (HROW.out.alloc _) _ 1 (ints [x]) rfl (rd_new _ _ _ _ _ (by simp) (by simp [maxLen])) (one_ints _) (by simp only [maxLen]; omega) (by omega) (by simp; omega) ?_; intro v3 w3 ho3 hg3))
                go_roundw
                case rel => exact ⟨k + 1, by omega, by go_num, by rw [HE.out, ints_append]; exact ho3, below_of_grown (HB.out.alloc HB.out.size _) (by have := HB.out.size; simp; omega) (HROW.out.alloc _) (Nat.le_refl _) rfl hg3⟩
                case measure => simp [intOf]; omega
              · have hh : Maps.has D (keyL k) = false := by rw [hhas]; simp [hs]
                obtain rfl : x = -1 := hnone (by omega)
                have HH := Lib.hid hh
                clear hhas hh hnone
                go_wp2_with (first | (at_lookup; refine wpList_lookup_own_ok_int _ rfl _ _ 43 rfl 3 3 .i64 lawI Try.underlying43 Try.underlying3 (zeroI _) w1.heap.size _ _ rfl HO2.out _ _ rfl HKEY.out ?_; rw [HH.out]; intro c _ _) | (at_builtin; refine app_own _ elemInt rfl _ _ rfl wo.heap.size _ k _ rfl (HROW.out.alloc _) _ 1 (ints [-1]) rfl (rd_new _ _ _ _ _ (by simp) (by simp [maxLen])) (one_ints _) (by simp only [maxLen]; omega) (by omega) (by simp; omega) ?_; intro v3 w3 ho3 hg3))
                go_roundw
                case rel => exact ⟨k + 1, by omega, by go_num, by rw [HE.out, ints_append]; exact ho3, below_of_grown (HB.out.alloc HB.out.size _) (by have := HB.out.size; simp; omega) (HROW.out.alloc _) (Nat.le_refl _) rfl hg3⟩
                case measure => simp [intOf]; omega
            · obtain rfl : k = n := by omega
              have hR : HRes V N k w (.returned (.tuple #[u8, .bool true])) wr := ⟨HOLD.out.trans (hb.mono HOLD.out.size), .inl ⟨⟨HOK.out, HFINE.out⟩, _, rfl, by rw [HLS.out]; exact rd_of_owns hrow⟩⟩
              have HR := Lib.hid hR
              clear hR hrow hb hbs
              go_wp2_with fail
              go_ret2
              exact HR.out
  · have HCK := Lib.hid (check_ill w a n cap V N hp hok)
    have HOK := Lib.hid hok
    clear hok hp
    go_enter Try.func9, Try.ntmps9
    go_wp2_with fail
    refine HCK.out.mono ?_; rintro e w1 ⟨⟨x, rfl⟩, hb1⟩
    go_wp2_with fail
    go_ret2
    exact ⟨hb1, .inr ⟨fun h => HOK.out h.1, rfl⟩⟩
end Go.Proofs.Ytlnldkciiphidaa
