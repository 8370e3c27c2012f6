/- Trees: the walk of TreeLimits, its other ways. (Printed by wip/scripts/gen_tr25.py.) -/
import Derived.Test.YtipcnkgojonmjaaTr24
namespace Go.Proofs.Ytipcnkgojonmjaa
open Go.RowKit Go.Waf
set_option maxRecDepth 100000
set_option linter.unusedVariables false
set_option linter.unusedSimpArgs false

/-- W is as w, but for block g (and for what is new). -/
def Agree (g : Nat) (w W : World) : Prop := w.heap.size ≤ W.heap.size ∧ ∀ k, k < w.heap.size → k ≠ g → W.heap[k]? = w.heap[k]?
theorem Agree.of_alloc {g : Nat} {w W : World} {o : Obj} (h : Agree g (w.alloc o) W) : Agree g w W :=
  ⟨Nat.le_trans (by simp) h.1, fun k hk hg => (h.2 k (by simp; omega) hg).trans (Below.heap_alloc w o k hk)⟩
theorem Agree.new {g : Nat} {w W : World} {a : Array Value} {t : TypeId} (h : Agree g (w.alloc (.cells a t)) W) (hg : w.heap.size ≠ g) : W.heap[w.heap.size]? = some (.cells a t (0, 0)) := by
  rw [h.2 _ (by simp) hg]; exact heap_alloc_new w _
theorem Agree.set {w : World} (g i : Nat) (u : Value) : Agree g w (w.setCell ⟨g, i, none⟩ u) := ⟨by simp [World.setCell], fun k _ hk => Below.heap_setCell w _ _ k hk⟩
theorem Agree.alloc {g : Nat} {w W : World} (h : Agree g w W) (o : Obj) : Agree g w (W.alloc o) := ⟨Nat.le_trans h.1 (by simp), fun k hk hg => (Below.heap_alloc W o k (Nat.lt_of_lt_of_le hk h.1)).trans (h.2 k hk hg)⟩
set_option maxHeartbeats 6400000 in
theorem treeLimits_1 (w : World) (a0 a1 : Int) (q : Nat) (h0 : 0 ≤ a0 ∧ a0 ≤ 255) (h1 : 0 ≤ a1 ∧ a1 ≤ 255) (hw : a0 % 5 = 1) (hq : a1 % 5 = (q : Int)) (hq4 : q ≤ 4) (R : Bool) (hR : R = decide (q ≤ 2)) :
    Calls Try.prog 3 #[.int .u8 a0, .int .u8 a1] w fun e w' => e = .returned (.bool true) ∧ Below w.heap.size w w' := by
  have hR2 : decide ((q : Int) - 2 ≤ 0) = R := by rw [hR]; exact decide_eq_decide.2 (by omega)
  have HRR := Lib.hid hR
  have HR2 := Lib.hid hR2
  obtain ⟨p0, p1⟩ := h0
  obtain ⟨p2, p3⟩ := h1
  clear hR hR2
  go_enter Try.func3, Try.ntmps3
  go_wp2_with fail
  refine (known_prog w).mono ?_
  rintro en w1 ⟨rfl, hbk⟩
  have HB1 := Lib.hid hbk
  clear hbk
  go_wp2_with fail
  obtain ⟨w2, hw2⟩ : ∃ w2 : World, w2 = w1.alloc (.cells #[.string { data := #[77] }, .slice none 0 0, .slice none 0 0, .slice none 0 0, .slice none 0 0, .slice none 0 0, .slice none 0 0, .slice none 0 0] 30) := ⟨_, rfl⟩
  rw [← hw2]
  have hm2 : w2.heap[w1.heap.size]? = some (.cells (mdC (.slice none 0 0) (.slice none 0 0)) 30 (0, 0)) := by rw [hw2]; exact heap_alloc_new w1 _
  have HM2 := Lib.hid hm2
  have HB2 := Lib.hid (show Below w.heap.size w w2 from by rw [hw2]; exact HB1.out.alloc HB1.out.size _)
  have HZ2 := Lib.hid (show w2.heap.size = w1.heap.size + 1 from by rw [hw2]; simp)
  have hs1 := HB1.out.size
  clear hw2 hm2
  go_loopw [9, 10] (fun v z wr => ∃ (i : Nat) (ba : Option Addr) (bc : Nat), z = .int .i64 (i : Int) ∧ v = .slice ba (bL i) bc ∧ i ≤ 62 + q ∧ bL i ≤ bc ∧ bc ≤ 9223372036854775807 ∧ (∀ W, Agree w1.heap.size wr W → StsAt W ba (bL i) (bF i)) ∧ wr.heap[w1.heap.size]? = some (.cells (mdC (.slice none 0 0) (.slice none 0 0)) 30 (0, 0)) ∧ Below w.heap.size w wr) (fun _ z _ => 62 + q - (intOf z).toNat)
  case atStart => exact ⟨0, none, 0, rfl, rfl, by omega, by decide, by decide, fun W _ h => absurd (show 0 < 0 from h) (by omega), HM2.out, HB2.out⟩
  case round =>
    obtain ⟨i, ba, bc, rfl, rfl, hi, hl1, hl2, hst, hm, hb⟩ := hrel
    obtain ⟨wo, rfl⟩ : ∃ wo : World, wo = wr := ⟨_, rfl⟩
    have hml := (Array.getElem?_eq_some_iff.1 hm).1
    obtain ⟨L, hL⟩ : ∃ o, o = bL i := ⟨_, rfl⟩
    have HL := Lib.hid hL
    have HST := Lib.hid hst
    have HM := Lib.hid hm
    have HB := Lib.hid hb
    have HL1 := Lib.hid hl1
    have hsz := hb.size
    rw [← hL]
    clear hst hm hb hL hl1
    by_cases hlt : i < 62 + q
    · go_wp2_with fail
      go_roundw
      case rel =>
        refine ⟨i + 1, some ⟨wo.heap.size + 1, 0, none⟩, 1, by go_num, rfl, by omega, Nat.le_refl _, by decide, fun W hW => ?_, blk_alloc (blk_alloc HM.out _) _, (HB.out.alloc hsz _).alloc (by simp; omega) _⟩
        have hW1 := hW.of_alloc
        have hW0 := hW1.of_alloc
        have g0 := hW1.new (by omega)
        have g1 : W.heap[wo.heap.size + 1]? = some (.cells #[.int .i64 4, .slice none 0 0, .slice (some ⟨wo.heap.size, 0, none⟩) 1 1, .slice none 0 0] 40 (0, 0)) := by
          have h := hW.new (by simp; omega)
          simpa using h
        refine fun _ => ⟨_, 0, rfl, fun j hj => ?_⟩
        obtain rfl : j = 0 := by have hj : j < 1 := hj; omega
        refine ⟨_, _, _, ⟨ExsIn.nil _ _, IntsIn.nil _ _, _, _, rfl, Nat.le_refl _, by decide, fun _ => ⟨_, 0, rfl, fun j hj => ?_⟩⟩, ⟨rowC g1 0 _, rowC g1 1 _, rowC g1 2 _, rowC g1 3 _⟩⟩
        obtain rfl : j = 0 := by omega
        exact ⟨ba, bc, by rw [← HL.out]; exact rowC g0 0 _, HL1.out, hl2, HST.out W hW0⟩
      case measure => simp [intOf]; omega
    · have hi2 : i = 62 + q := by omega
      have HI2 := Lib.hid hi2
      obtain ⟨m0, m1, m2, m3, m4, m5, m6, m7⟩ := mdC_cells HM.out
      have f7 := frozen_of_row wo w1.heap.size 7 _ _ HM.out
      clear hi2
      go_upto_region 30 with fail
      obtain ⟨wz, hwz⟩ : ∃ wz : World, wz = wo.setCell ⟨w1.heap.size, 7, none⟩ (.slice ba L bc) := ⟨_, rfl⟩
      rw [← hwz]
      have hmz : wz.heap[w1.heap.size]? = some (.cells (mdC (.slice none 0 0) (.slice ba L bc)) 30 (0, 0)) := by
        rw [hwz]; exact heap_setCell_same wo w1.heap.size 7 _ _ _ HM.out
      have hst : StsAt wz ba (bL i) (bF i) := HST.out wz (by rw [hwz]; exact Agree.set _ _ _)
      have hend : Ends w wz (.slice none 0 0) (.slice ba (bL i) bc) R := ends_of w wz none 0 0 (fun _ => vr0) ba (bL i) bc (bF i) R (Nat.le_refl _) (by decide) HL1.out hl2 (vrs0 _ _) hst (bF_dep i) (by rw [bF_nest]; omega) (by rw [bF_small, HRR.out]; exact decide_eq_decide.2 (by have := HI2.out; omega))
      rw [← HL.out] at hend
      have HEND := Lib.hid hend
      have HBW := Lib.hid (show Below w.heap.size w wz from by rw [hwz]; exact HB.out.setCell (by simp; omega) _)
      have HMZ := Lib.hid hmz
      clear hwz hmz hst HM m0 m1 m2 m3 m4 m5 m6 m7 f7 hend
      have hdq := HR2.out
      have HM := HMZ
      unfold Ends at HEND
      unfold mdC at HEND
      clear HR2 HRR
      cases R
      · obtain ⟨m0, m1, m2, m3, m4, m5, m6, m7⟩ := mdC_cells HM.out
        go_wp2_with fail
        refine (HEND.out wz (Below.refl _ _)).1.mono ?_
        rintro en x1 ⟨rfl, hb⟩
        obtain ⟨n0, n1, n2, n3, n4, n5, n6, n7⟩ := mdC_cells (show x1.heap[w1.heap.size]? = _ from (hb.block _ (Array.getElem?_eq_some_iff.1 HM.out).1).trans HM.out)
        have HX1 := Lib.hid hb
        clear hb
        go_wp2_with fail
        refine (HEND.out x1 HX1.out).2.mono ?_
        rintro en x2 ⟨rfl, hb⟩
        have HX2 := Lib.hid (HBW.out.trans ((HX1.out.trans (hb.mono HX1.out.size)).mono HBW.out.size))
        clear hb
        go_wp2_with fail
        go_ret
        exact ⟨rfl, HX2.out⟩
      · obtain ⟨m0, m1, m2, m3, m4, m5, m6, m7⟩ := mdC_cells HM.out
        go_wp2_with fail
        refine (HEND.out wz (Below.refl _ _)).1.mono ?_
        rintro en x1 ⟨rfl, hb⟩
        obtain ⟨n0, n1, n2, n3, n4, n5, n6, n7⟩ := mdC_cells (show x1.heap[w1.heap.size]? = _ from (hb.block _ (Array.getElem?_eq_some_iff.1 HM.out).1).trans HM.out)
        have HX1 := Lib.hid hb
        clear hb
        go_wp2_with fail
        refine (HEND.out x1 HX1.out).2.mono ?_
        rintro en x2 ⟨rfl, hb⟩
        have HX2 := Lib.hid (HBW.out.trans ((HX1.out.trans (hb.mono HX1.out.size)).mono HBW.out.size))
        clear hb
        go_wp2_with fail
        go_ret
        exact ⟨rfl, HX2.out⟩
set_option maxHeartbeats 6400000 in
theorem treeLimits_4 (w : World) (a0 a1 : Int) (q : Nat) (h0 : 0 ≤ a0 ∧ a0 ≤ 255) (h1 : 0 ≤ a1 ∧ a1 ≤ 255) (hw : a0 % 5 = 4) (hq : a1 % 5 = (q : Int)) (hq4 : q ≤ 4) (R : Bool) (hR : R = decide (q ≤ 2)) :
    Calls Try.prog 3 #[.int .u8 a0, .int .u8 a1] w fun e w' => e = .returned (.bool true) ∧ Below w.heap.size w w' := by
  have hR2 : decide ((q : Int) - 2 ≤ 0) = R := by rw [hR]; exact decide_eq_decide.2 (by omega)
  have HRR := Lib.hid hR
  have HR2 := Lib.hid hR2
  obtain ⟨p0, p1⟩ := h0
  obtain ⟨p2, p3⟩ := h1
  clear hR hR2
  go_enter Try.func3, Try.ntmps3
  go_wp2_with fail
  refine (known_prog w).mono ?_
  rintro en w1 ⟨rfl, hbk⟩
  have HB1 := Lib.hid hbk
  clear hbk
  go_wp2_with fail
  obtain ⟨w2, hw2⟩ : ∃ w2 : World, w2 = (w1.alloc (.cells #[.string { data := #[77] }, .slice none 0 0, .slice none 0 0, .slice none 0 0, .slice none 0 0, .slice none 0 0, .slice none 0 0, .slice none 0 0] 30)).alloc (.cells #[.int .i64 0, .int .i64 0, .string { data := #[] }, .slice none 0 0] 33) := ⟨_, rfl⟩
  rw [← hw2]
  have HM2 := Lib.hid (show w2.heap[w1.heap.size]? = some (.cells (mdC (.slice none 0 0) (.slice none 0 0)) 30 (0, 0)) from by rw [hw2]; exact heap_alloc2_old w1 _ _)
  have HE2 := Lib.hid (show w2.heap[w1.heap.size + 1]? = some (.cells (tyC 0 (.slice none 0 0)) 33 (0, 0)) from by rw [hw2]; exact heap_alloc2_new w1 _ _)
  have HB2 := Lib.hid (show Below w.heap.size w w2 from by rw [hw2]; exact (HB1.out.alloc HB1.out.size _).alloc (by have := HB1.out.size; simp; omega) _)
  have hs1 := HB1.out.size
  clear hw2
  go_loopw [12] (fun z wr => ∃ (i : Nat) (xv : Value), z = .int .i64 ((i + 1 : Nat) : Int) ∧ i + 1 ≤ 6 + q ∧ wr.heap[w1.heap.size + 1]? = some (.cells (tyC (tN i).form xv) 33 (0, 0)) ∧ TyOkB (fun b => b ≠ w1.heap.size + 1 ∧ b ≠ w1.heap.size) wr (tN i) xv ∧ wr.heap[w1.heap.size]? = some (.cells (mdC (.slice none 0 0) (.slice none 0 0)) 30 (0, 0)) ∧ Below w.heap.size w wr) (fun z _ => 6 + q - (intOf z).toNat)
  case atStart => exact ⟨0, .slice none 0 0, rfl, by omega, HE2.out, ⟨none, 0, rfl, Nat.le_refl _, by decide, fun h => absurd h (by omega)⟩, HM2.out, HB2.out⟩
  case round =>
    obtain ⟨i, xv, rfl, hi, he, hok, hm, hb⟩ := hrel
    obtain ⟨wo, rfl⟩ : ∃ wo : World, wo = wr := ⟨_, rfl⟩
    obtain ⟨⟨c0, c1, c2, c3⟩, f0, f1, f2, f3⟩ := tyC_all he
    have hel := (Array.getElem?_eq_some_iff.1 he).1
    have hml := (Array.getElem?_eq_some_iff.1 hm).1
    obtain ⟨xa, xc, rfl, _, _⟩ := (TyOkB.ok _ _ hok).shape
    obtain ⟨op, hop⟩ : ∃ o, o = (tN i).form := ⟨_, rfl⟩
    obtain ⟨K, hK⟩ : ∃ o, o = (tN i).k := ⟨_, rfl⟩
    rw [← hop] at c0
    rw [← hK] at c3
    have HE := Lib.hid he
    have HOK := Lib.hid hok
    have HM := Lib.hid hm
    have HB := Lib.hid hb
    have hsz := hb.size
    have HOP := Lib.hid hop
    have HKK := Lib.hid hK
    have HEC := Lib.hid (show wo.heap[w1.heap.size + 1]? = some (.cells (tyC op (.slice xa K xc)) 33 (0, 0)) from by rw [HOP.out, HKK.out]; exact HE.out)
    clear he hok hm hb hop hK
    by_cases hlt : i + 1 < 6 + q
    · go_wp2_with fail
      go_roundw
      case rel =>
        have h8 := set4 HEC.out (.int .i64 7) (.int .i64 0) (.string { data := #[] }) (.slice (some ⟨wo.heap.size, 0, none⟩) 1 1)
        refine ⟨i + 1, .slice (some ⟨wo.heap.size, 0, none⟩) 1 1, by go_num, by omega, blk_alloc h8.1 _, ?_, blk_alloc ((h8.2.1 _ (by omega)).trans HM.out) _, ?_⟩
        · refine tyOkB_succ (F := fun b => b ≠ w1.heap.size + 1 ∧ b ≠ w1.heap.size) (b := wo.heap.size) (v := .slice xa (tN i).k xc) (t := 33) ⟨by omega, by omega⟩ ?_ (TyOkB.imp (fun b hb => hb) ?_ _ _ HOK.out)
          · rw [← HOP.out, ← HKK.out]
            exact atNew h8.2.2.symm
          · refine Keeps.trans ?_ (Keeps.below ((Below.refl _ _).alloc (Nat.le_refl _) _))
            repeat (refine Keeps.trans ?_ (Keeps.set _ _ _ (fun h => h.1 rfl)))
            exact fun b o u _ h => h
        · refine Below.alloc ?_ (by rw [h8.2.2]; exact hsz) _
          repeat (refine Below.setCell ?_ (by simp; omega) _)
          exact HB.out
      case measure => simp [intOf]; omega
    · have hi2 : i + 1 = 6 + q := by omega
      have HI2 := Lib.hid hi2
      obtain ⟨m0, m1, m2, m3, m4, m5, m6, m7⟩ := mdC_cells HM.out
      have f5 := frozen_of_row wo w1.heap.size 5 _ _ HM.out
      clear hi2
      go_upto_region 30 with fail
      obtain ⟨wz, hwz⟩ : ∃ wz : World, wz = (wo.setCell ⟨w1.heap.size, 5, none⟩ (.slice (some ⟨wo.heap.size, 0, none⟩) 1 1)).alloc (.cells #[.string { data := #[] }, .bool false, .int .i64 op, .int .i64 0, .string { data := #[] }, .slice xa K xc] 43) := ⟨_, rfl⟩
      rw [← hwz]
      have hss : (wo.setCell ⟨w1.heap.size, 5, none⟩ (.slice (some ⟨wo.heap.size, 0, none⟩) 1 1)).heap.size = wo.heap.size := by simp [World.setCell]
      have hmz : wz.heap[w1.heap.size]? = some (.cells (mdC (.slice (some ⟨wo.heap.size, 0, none⟩) 1 1) (.slice none 0 0)) 30 (0, 0)) := by
        rw [hwz]; exact blk_alloc (heap_setCell_same wo w1.heap.size 5 _ _ _ HM.out) _
      have hez : wz.heap[wo.heap.size]? = some (.cells #[.string { data := #[] }, .bool false, .int .i64 (tN i).form, .int .i64 0, .string { data := #[] }, .slice xa (tN i).k xc] 43 (0, 0)) := by
        rw [hwz, ← HOP.out, ← HKK.out]; exact atNew hss.symm
      have hok2 : TyOk wz (tN i) (.slice xa (tN i).k xc) := by
        refine TyOkB.ok _ _ (TyOkB.imp (F' := fun _ => True) (fun b _ => trivial) ?_ _ _ HOK.out)
        rw [hwz]
        exact (Keeps.set _ _ _ (fun h => h.2 rfl)).trans (Keeps.below ((Below.refl _ _).alloc (Nat.le_refl _) _))
      have hvr : VrsAt wz (some ⟨wo.heap.size, 0, none⟩) 1 (fun _ => ⟨ByteArray.empty, false, tN i⟩) := fun _ => ⟨_, 0, rfl, fun j hj => by
        obtain rfl : j = 0 := by omega
        have e : (tN i).num = 0 ∧ (tN i).name = ByteArray.empty := by cases i <;> exact ⟨rfl, rfl⟩
        refine ⟨_, hok2, rowC hez 0 _, rowC hez 1 _, rowC hez 2 _, ?_, ?_, rowC hez 5 _⟩
        · show wz.cell? _ = some (.int .i64 (tN i).num); rw [e.1]; exact rowC hez 3 _
        · show wz.cell? _ = some (.string (tN i).name); rw [e.2]; exact rowC hez 4 _⟩
      have HEND := Lib.hid (ends_of w wz (some ⟨wo.heap.size, 0, none⟩) 1 1 (fun _ => ⟨ByteArray.empty, false, tN i⟩) none 0 0 (fun _ => zS) R (Nat.le_refl _) (by decide) (Nat.le_refl _) (by decide) hvr (sts0 _ _) (none_dep _) (none_nest _) (by rw [vT_small, HRR.out]; exact decide_eq_decide.2 (by have := HI2.out; omega)))
      have HBW := Lib.hid (show Below w.heap.size w wz from by
        rw [hwz]
        exact (HB.out.setCell (by simp; omega) _).alloc (by rw [hss]; exact hsz) _)
      have HMZ := Lib.hid hmz
      clear hwz hss hmz hez hok2 hvr HM HEC c0 c1 c2 c3 f0 f1 f2 f3 m0 m1 m2 m3 m4 m5 m6 m7 f5
      have hdq := HR2.out
      have HM := HMZ
      unfold Ends at HEND
      unfold mdC at HEND
      clear HR2 HRR
      cases R
      · obtain ⟨m0, m1, m2, m3, m4, m5, m6, m7⟩ := mdC_cells HM.out
        go_wp2_with fail
        refine (HEND.out wz (Below.refl _ _)).1.mono ?_
        rintro en x1 ⟨rfl, hb⟩
        obtain ⟨n0, n1, n2, n3, n4, n5, n6, n7⟩ := mdC_cells (show x1.heap[w1.heap.size]? = _ from (hb.block _ (Array.getElem?_eq_some_iff.1 HM.out).1).trans HM.out)
        have HX1 := Lib.hid hb
        clear hb
        go_wp2_with fail
        refine (HEND.out x1 HX1.out).2.mono ?_
        rintro en x2 ⟨rfl, hb⟩
        have HX2 := Lib.hid (HBW.out.trans ((HX1.out.trans (hb.mono HX1.out.size)).mono HBW.out.size))
        clear hb
        go_wp2_with fail
        go_ret
        exact ⟨rfl, HX2.out⟩
      · obtain ⟨m0, m1, m2, m3, m4, m5, m6, m7⟩ := mdC_cells HM.out
        go_wp2_with fail
        refine (HEND.out wz (Below.refl _ _)).1.mono ?_
        rintro en x1 ⟨rfl, hb⟩
        obtain ⟨n0, n1, n2, n3, n4, n5, n6, n7⟩ := mdC_cells (show x1.heap[w1.heap.size]? = _ from (hb.block _ (Array.getElem?_eq_some_iff.1 HM.out).1).trans HM.out)
        have HX1 := Lib.hid hb
        clear hb
        go_wp2_with fail
        refine (HEND.out x1 HX1.out).2.mono ?_
        rintro en x2 ⟨rfl, hb⟩
        have HX2 := Lib.hid (HBW.out.trans ((HX1.out.trans (hb.mono HX1.out.size)).mono HBW.out.size))
        clear hb
        go_wp2_with fail
        go_ret
        exact ⟨rfl, HX2.out⟩
theorem infoS : ∃ i, (Try.prog).info? 40 = some i ∧ i.zero = some (.agg #[.int .i64 0, .slice none 0 0, .slice none 0 0, .slice none 0 0]) ∧ i.size = 4 ∧ i.bytes = 80 := by
  have e : ((Try.prog).info? 40).map (fun i => (i.zero, i.size, i.bytes)) = some (some (.agg #[.int .i64 0, .slice none 0 0, .slice none 0 0, .slice none 0 0]), 4, 80) := by kernel_rfl
  cases h : (Try.prog).info? 40 with
  | none => rw [h] at e; cases e
  | some i =>
    rw [h] at e
    have e := Option.some.inj e
    exact ⟨i, rfl, congrArg (·.1) e, congrArg (·.2.1) e, congrArg (·.2.2) e⟩
theorem made4 (n j i : Nat) (hj : j < n) (hi : i < 4) (z : Array Value) (hz : z.size = 4) : (madeCells z (n * 4))[j * 4 + i]? = z[i]? := by
  unfold madeCells
  have h4 : j * 4 + i < n * 4 := by omega
  rw [Array.getElem?_map, Array.getElem?_range, if_pos h4]
  show some (z[(j * 4 + i) % z.size]!) = _
  have e : (j * 4 + i) % z.size = i := by rw [hz]; omega
  rw [e, getElem!_pos z i (by omega), getElem?_pos z i (by omega)]
set_option maxHeartbeats 6400000 in
theorem treeLimits_2 (w : World) (a0 a1 : Int) (q : Nat) (h0 : 0 ≤ a0 ∧ a0 ≤ 255) (h1 : 0 ≤ a1 ∧ a1 ≤ 255) (hw : a0 % 5 = 2) (hq : a1 % 5 = (q : Int)) (hq4 : q ≤ 4) (R : Bool) (hR : R = decide (q ≤ 2)) :
    Calls Try.prog 3 #[.int .u8 a0, .int .u8 a1] w fun e w' => e = .returned (.bool true) ∧ Below w.heap.size w w' := by
  have hR2 : decide ((q : Int) - 2 ≤ 0) = R := by rw [hR]; exact decide_eq_decide.2 (by omega)
  have HRR := Lib.hid hR
  have HR2 := Lib.hid hR2
  obtain ⟨p0, p1⟩ := h0
  obtain ⟨p2, p3⟩ := h1
  clear hR hR2
  go_enter Try.func3, Try.ntmps3
  go_wp2_with fail
  refine (known_prog w).mono ?_
  rintro en w1 ⟨rfl, hbk⟩
  have HB1 := Lib.hid hbk
  clear hbk
  go_wp2_with fail
  obtain ⟨w2, hw2⟩ : ∃ w2 : World, w2 = w1.alloc (.cells #[.string { data := #[77] }, .slice none 0 0, .slice none 0 0, .slice none 0 0, .slice none 0 0, .slice none 0 0, .slice none 0 0, .slice none 0 0] 30) := ⟨_, rfl⟩
  rw [← hw2]
  have hm2 : w2.heap[w1.heap.size]? = some (.cells (mdC (.slice none 0 0) (.slice none 0 0)) 30 (0, 0)) := by rw [hw2]; exact heap_alloc_new w1 _
  have HM2 := Lib.hid hm2
  have HB2 := Lib.hid (show Below w.heap.size w w2 from by rw [hw2]; exact HB1.out.alloc HB1.out.size _)
  have HZ2 := Lib.hid (show w2.heap.size = w1.heap.size + 1 from by rw [hw2]; simp)
  have hs1 := HB1.out.size
  clear hw2 hm2
  obtain ⟨N, hN⟩ : ∃ N, N = 998 + q := ⟨_, rfl⟩
  have hNq : 1000 + ((q : Int) - 2) = (N : Int) := by omega
  have hmk : (Instr.makeSlice 28 (.int .i64 (N : Int)) (.int .i64 (N : Int))).run Try.prog w2 = .ok (.slice (some ⟨w2.heap.size, 0, none⟩) N N) (w2.alloc (.cells (madeCells #[.int .i64 0, .slice none 0 0, .slice none 0 0, .slice none 0 0] (N * 4)) 40)) := by
    obtain ⟨i, g1, g2, g3, g4⟩ := infoS
    have h := run_make (P := Try.prog) w2 28 40 i _ Try.underlying28 g1 g2 .i64 .i64 (N : Int) (N : Int) (by omega) (Int.le_refl _) (by rw [g4]; omega) (by omega)
    rw [g3, Int.toNat_natCast] at h
    exact h
  obtain ⟨m0, m1, m2, m3, m4, m5, m6, m7⟩ := mdC_cells HM2.out
  have f7 := frozen_of_row w2 w1.heap.size 7 _ _ HM2.out
  have hml : w1.heap.size < w2.heap.size := by rw [HZ2.out]; omega
  obtain ⟨MC, hMC⟩ : ∃ m, m = madeCells #[.int .i64 0, .slice none 0 0, .slice none 0 0, .slice none 0 0] (N * 4) := ⟨_, rfl⟩
  rw [← hMC] at hmk
  have HMC := Lib.hid hMC
  have HN := Lib.hid hN
  clear hMC hN
  go_upto_region 30 with fail
  rw [hNq, hmk]
  go_upto_region 30 with fail
  obtain ⟨wz, hwz⟩ : ∃ wz : World, wz = (w2.setCell ⟨w1.heap.size, 7, none⟩ (.slice (some ⟨w2.heap.size, 0, none⟩) N N)).alloc (.cells MC 40) := ⟨_, rfl⟩
  rw [← hwz]
  have hss : (w2.setCell ⟨w1.heap.size, 7, none⟩ (.slice (some ⟨w2.heap.size, 0, none⟩) N N)).heap.size = w2.heap.size := by simp [World.setCell]
  have hmz : wz.heap[w1.heap.size]? = some (.cells (mdC (.slice none 0 0) (.slice (some ⟨w2.heap.size, 0, none⟩) N N)) 30 (0, 0)) := by
    rw [hwz]; exact blk_alloc (heap_setCell_same w2 w1.heap.size 7 _ _ _ HM2.out) _
  have hez : wz.heap[w2.heap.size]? = some (.cells MC 40 (0, 0)) := by rw [hwz]; exact atNew hss.symm
  have hst : StsAt wz (some ⟨w2.heap.size, 0, none⟩) N (fun _ => zS) := fun _ => ⟨_, 0, rfl, fun j hj => by
    have hg := fun i (u : Value) (hi : i < 4) (hu : (#[.int .i64 0, .slice none 0 0, .slice none 0 0, .slice none 0 0] : Array Value)[i]? = some u) => (show wz.cell? ⟨w2.heap.size, 0 + j * 4 + i, none⟩ = some u from by
      rw [cell_of_row wz _ _ _ _ _ hez, HMC.out, Nat.zero_add, made4 _ _ _ hj hi _ rfl]; exact hu)
    exact ⟨_, _, _, ⟨ExsIn.nil _ _, IntsIn.nil _ _, none, 0, rfl, Nat.le_refl _, by decide, fun h => absurd h (by omega)⟩, ⟨hg 0 _ (by omega) rfl, hg 1 _ (by omega) rfl, hg 2 _ (by omega) rfl, hg 3 _ (by omega) rfl⟩⟩⟩
  have HEND := Lib.hid (ends_of w wz none 0 0 (fun _ => vr0) (some ⟨w2.heap.size, 0, none⟩) N N (fun _ => zS) R (Nat.le_refl _) (by decide) (Nat.le_refl _) (by have := HN.out; omega) (vrs0 _ _) hst (zS_dep _) (by rw [zS_nest _ (by have := HN.out; omega)]; omega) (by rw [zS_small _ (by have := HN.out; omega), HRR.out]; exact decide_eq_decide.2 (by have := HN.out; omega)))
  have HBW := Lib.hid (show Below w.heap.size w wz from by
    rw [hwz]
    exact (HB2.out.setCell (by simp; omega) _).alloc (by rw [hss]; exact HB2.out.size) _)
  have HMZ := Lib.hid hmz
  clear hwz hss hmz hez hst HM2 hmk m0 m1 m2 m3 m4 m5 m6 m7 f7
  have hdq := HR2.out
  have HM := HMZ
  unfold Ends at HEND
  unfold mdC at HEND
  clear HR2 HRR
  cases R
  · obtain ⟨m0, m1, m2, m3, m4, m5, m6, m7⟩ := mdC_cells HM.out
    go_wp2_with fail
    refine (HEND.out wz (Below.refl _ _)).1.mono ?_
    rintro en x1 ⟨rfl, hb⟩
    obtain ⟨n0, n1, n2, n3, n4, n5, n6, n7⟩ := mdC_cells (show x1.heap[w1.heap.size]? = _ from (hb.block _ (Array.getElem?_eq_some_iff.1 HM.out).1).trans HM.out)
    have HX1 := Lib.hid hb
    clear hb
    go_wp2_with fail
    refine (HEND.out x1 HX1.out).2.mono ?_
    rintro en x2 ⟨rfl, hb⟩
    have HX2 := Lib.hid (HBW.out.trans ((HX1.out.trans (hb.mono HX1.out.size)).mono HBW.out.size))
    clear hb
    go_wp2_with fail
    go_ret
    exact ⟨rfl, HX2.out⟩
  · obtain ⟨m0, m1, m2, m3, m4, m5, m6, m7⟩ := mdC_cells HM.out
    go_wp2_with fail
    refine (HEND.out wz (Below.refl _ _)).1.mono ?_
    rintro en x1 ⟨rfl, hb⟩
    obtain ⟨n0, n1, n2, n3, n4, n5, n6, n7⟩ := mdC_cells (show x1.heap[w1.heap.size]? = _ from (hb.block _ (Array.getElem?_eq_some_iff.1 HM.out).1).trans HM.out)
    have HX1 := Lib.hid hb
    clear hb
    go_wp2_with fail
    refine (HEND.out x1 HX1.out).2.mono ?_
    rintro en x2 ⟨rfl, hb⟩
    have HX2 := Lib.hid (HBW.out.trans ((HX1.out.trans (hb.mono HX1.out.size)).mono HBW.out.size))
    clear hb
    go_wp2_with fail
    go_ret
    exact ⟨rfl, HX2.out⟩
theorem infoB : ∃ i, (Try.prog).info? 5 = some i ∧ i.zero = some (.int .u8 0) ∧ i.size = 1 ∧ i.bytes = 1 := by
  have e : ((Try.prog).info? 5).map (fun i => (i.zero, i.size, i.bytes)) = some (some (.int .u8 0), 1, 1) := by kernel_rfl
  cases h : (Try.prog).info? 5 with
  | none => rw [h] at e; cases e
  | some i =>
    rw [h] at e
    have e := Option.some.inj e
    exact ⟨i, rfl, congrArg (·.1) e, congrArg (·.2.1) e, congrArg (·.2.2) e⟩
theorem madeB (n : Nat) : madeCells #[.int .u8 0] (n * 1) = (byt (List.replicate n 0)).toArray := by
  apply Array.toList_inj.1
  rw [Nat.mul_one, toList_madeCells_one]
  simp [byt]
set_option maxHeartbeats 6400000 in
theorem treeLimits_3 (w : World) (a0 a1 : Int) (q : Nat) (h0 : 0 ≤ a0 ∧ a0 ≤ 255) (h1 : 0 ≤ a1 ∧ a1 ≤ 255) (hw : a0 % 5 = 3) (hq : a1 % 5 = (q : Int)) (hq4 : q ≤ 4) (R : Bool) (hR : R = decide (q ≤ 2)) :
    Calls Try.prog 3 #[.int .u8 a0, .int .u8 a1] w fun e w' => e = .returned (.bool true) ∧ Below w.heap.size w w' := by
  have hR2 : decide ((q : Int) - 2 ≤ 0) = R := by rw [hR]; exact decide_eq_decide.2 (by omega)
  have HRR := Lib.hid hR
  have HR2 := Lib.hid hR2
  obtain ⟨p0, p1⟩ := h0
  obtain ⟨p2, p3⟩ := h1
  clear hR hR2
  go_enter Try.func3, Try.ntmps3
  go_wp2_with fail
  refine (known_prog w).mono ?_
  rintro en w1 ⟨rfl, hbk⟩
  have HB1 := Lib.hid hbk
  clear hbk
  go_wp2_with fail
  obtain ⟨w2, hw2⟩ : ∃ w2 : World, w2 = w1.alloc (.cells #[.string { data := #[77] }, .slice none 0 0, .slice none 0 0, .slice none 0 0, .slice none 0 0, .slice none 0 0, .slice none 0 0, .slice none 0 0] 30) := ⟨_, rfl⟩
  rw [← hw2]
  have hm2 : w2.heap[w1.heap.size]? = some (.cells (mdC (.slice none 0 0) (.slice none 0 0)) 30 (0, 0)) := by rw [hw2]; exact heap_alloc_new w1 _
  have HM2 := Lib.hid hm2
  have HB2 := Lib.hid (show Below w.heap.size w w2 from by rw [hw2]; exact HB1.out.alloc HB1.out.size _)
  have HZ2 := Lib.hid (show w2.heap.size = w1.heap.size + 1 from by rw [hw2]; simp)
  have hs1 := HB1.out.size
  clear hw2 hm2
  obtain ⟨N, hN⟩ : ∃ N, N = 63 + q := ⟨_, rfl⟩
  have hNq : 65 + ((q : Int) - 2) = (N : Int) := by omega
  have hmk : (Instr.makeSlice 41 (.int .i64 (N : Int)) (.int .i64 (N : Int))).run Try.prog w2 = .ok (.slice (some ⟨w2.heap.size, 0, none⟩) N N) (w2.alloc (.cells (byt (List.replicate N 0)).toArray 5)) := by
    obtain ⟨i, g1, g2, g3, g4⟩ := infoB
    have h := run_make (P := Try.prog) w2 41 5 i _ Try.underlying41 g1 g2 .i64 .i64 (N : Int) (N : Int) (by omega) (Int.le_refl _) (by rw [g4]; omega) (by omega)
    rw [g3, Int.toNat_natCast] at h
    rw [← madeB]
    exact h
  obtain ⟨SN, hSN⟩ : ∃ s, s = strOfNums (List.replicate N 0) := ⟨_, rfl⟩
  have HSN := Lib.hid (show SN.size = N from by rw [hSN, strOfNums_size]; simp)
  have hcv0 : ∀ W : World, (convert 41 9 (.slice (some ⟨W.heap.size, 0, none⟩) N N)).run Try.prog (W.alloc (.cells (byt (List.replicate N 0)).toArray 5)) = .ok (.string SN) (W.alloc (.cells (byt (List.replicate N 0)).toArray 5)) := fun W => by
    rw [hSN]
    exact conv_rd (n := N) (xs := List.replicate N 0) Try.underlying41 Try.underlying5 Try.underlying9 (rd_new W (byt (List.replicate N 0)) _ N 1 (by simp [byt]) (by simp only [maxLen]; omega))
  obtain ⟨MC, hMC⟩ : ∃ m, m = (byt (List.replicate N 0)).toArray := ⟨_, rfl⟩
  rw [← hMC] at hmk hcv0
  have hcv := hcv0 w2
  have HN := Lib.hid hN
  obtain ⟨m0, m1, m2, m3, m4, m5, m6, m7⟩ := mdC_cells HM2.out
  have f5 := frozen_of_row w2 w1.heap.size 5 _ _ HM2.out
  have hml : w1.heap.size < w2.heap.size := by rw [HZ2.out]; omega
  clear hMC hSN hN hcv0
  go_upto_region 30 with fail
  rw [hNq, hmk]
  go_upto_region 30 with fail
  obtain ⟨wz, hwz⟩ : ∃ wz : World, wz = ((w2.setCell ⟨w1.heap.size, 5, none⟩ (.slice (some ⟨w2.heap.size + 1, 0, none⟩) 1 1)).alloc (.cells MC 5)).alloc (.cells #[.string SN, .bool false, .int .i64 0, .int .i64 0, .string { data := #[] }, .slice none 0 0] 43) := ⟨_, rfl⟩
  rw [← hwz]
  have hss : (w2.setCell ⟨w1.heap.size, 5, none⟩ (.slice (some ⟨w2.heap.size + 1, 0, none⟩) 1 1)).heap.size = w2.heap.size := by simp [World.setCell]
  have hmz : wz.heap[w1.heap.size]? = some (.cells (mdC (.slice (some ⟨w2.heap.size + 1, 0, none⟩) 1 1) (.slice none 0 0)) 30 (0, 0)) := by
    rw [hwz]; exact blk_alloc (blk_alloc (heap_setCell_same w2 w1.heap.size 5 _ _ _ HM2.out) _) _
  have hez : wz.heap[w2.heap.size + 1]? = some (.cells #[.string SN, .bool false, .int .i64 0, .int .i64 0, .string { data := #[] }, .slice none 0 0] 43 (0, 0)) := by rw [hwz]; exact atNew (by simp [World.setCell])
  have hvr : VrsAt wz (some ⟨w2.heap.size + 1, 0, none⟩) 1 (fun _ => ⟨SN, false, tyF 0⟩) := fun _ => ⟨_, 0, rfl, fun j hj => by
    obtain rfl : j = 0 := by omega
    exact ⟨_, TyOk.leaf wz 0, rowC hez 0 _, rowC hez 1 _, rowC hez 2 _, rowC hez 3 _, rowC hez 4 _, rowC hez 5 _⟩⟩
  have HEND := Lib.hid (ends_of w wz (some ⟨w2.heap.size + 1, 0, none⟩) 1 1 (fun _ => ⟨SN, false, tyF 0⟩) none 0 0 (fun _ => zS) R (Nat.le_refl _) (by decide) (Nat.le_refl _) (by decide) hvr (sts0 _ _) (none_dep _) (none_nest _) (by rw [vN_small, HRR.out]; exact decide_eq_decide.2 (by have := HSN.out; have := HN.out; omega)))
  have HBW := Lib.hid (show Below w.heap.size w wz from by
    rw [hwz]
    exact ((HB2.out.setCell (by simp; omega) _).alloc (by rw [hss]; exact HB2.out.size) _).alloc (by simp [World.setCell]; have := HB2.out.size; omega) _)
  have HMZ := Lib.hid hmz
  clear hwz hss hmz hez hvr HM2 hmk hcv m0 m1 m2 m3 m4 m5 m6 m7 f5
  have hdq := HR2.out
  have HM := HMZ
  unfold Ends at HEND
  unfold mdC at HEND
  clear HR2 HRR
  cases R
  · obtain ⟨m0, m1, m2, m3, m4, m5, m6, m7⟩ := mdC_cells HM.out
    go_wp2_with fail
    refine (HEND.out wz (Below.refl _ _)).1.mono ?_
    rintro en x1 ⟨rfl, hb⟩
    obtain ⟨n0, n1, n2, n3, n4, n5, n6, n7⟩ := mdC_cells (show x1.heap[w1.heap.size]? = _ from (hb.block _ (Array.getElem?_eq_some_iff.1 HM.out).1).trans HM.out)
    have HX1 := Lib.hid hb
    clear hb
    go_wp2_with fail
    refine (HEND.out x1 HX1.out).2.mono ?_
    rintro en x2 ⟨rfl, hb⟩
    have HX2 := Lib.hid (HBW.out.trans ((HX1.out.trans (hb.mono HX1.out.size)).mono HBW.out.size))
    clear hb
    go_wp2_with fail
    go_ret
    exact ⟨rfl, HX2.out⟩
  · obtain ⟨m0, m1, m2, m3, m4, m5, m6, m7⟩ := mdC_cells HM.out
    go_wp2_with fail
    refine (HEND.out wz (Below.refl _ _)).1.mono ?_
    rintro en x1 ⟨rfl, hb⟩
    obtain ⟨n0, n1, n2, n3, n4, n5, n6, n7⟩ := mdC_cells (show x1.heap[w1.heap.size]? = _ from (hb.block _ (Array.getElem?_eq_some_iff.1 HM.out).1).trans HM.out)
    have HX1 := Lib.hid hb
    clear hb
    go_wp2_with fail
    refine (HEND.out x1 HX1.out).2.mono ?_
    rintro en x2 ⟨rfl, hb⟩
    have HX2 := Lib.hid (HBW.out.trans ((HX1.out.trans (hb.mono HX1.out.size)).mono HBW.out.size))
    clear hb
    go_wp2_with fail
    go_ret
    exact ⟨rfl, HX2.out⟩
end Go.Proofs.Ytipcnkgojonmjaa
