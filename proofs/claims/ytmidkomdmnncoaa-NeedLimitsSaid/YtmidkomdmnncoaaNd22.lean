/- Need: the walk of NeedLimits, way 0: how many registers. -/
import Derived.Test.YtmidkomdmnncoaaNd19
namespace Go.Proofs.Ytmidkomdmnncoaa
open Go.RowKit Go.Waf
set_option maxRecDepth 100000
set_option linter.unusedVariables false
set_option linter.unusedSimpArgs false

def exC (op : Int) (xv : Value) : Array Value := #[.int .i64 op, .int .i64 0, .int .i64 0, .string { data := #[] }, .slice none 0 0, .int .i32 0, .string { data := #[] }, xv]
theorem exC_all {w : World} {b : Nat} {op : Int} {xv : Value} {t : TypeId} (h : w.heap[b]? = some (.cells (exC op xv) t (0, 0))) : (w.cell? ⟨b, 0, none⟩ = some (.int .i64 op) ∧ w.cell? ⟨b, 1, none⟩ = some (.int .i64 0) ∧ w.cell? ⟨b, 2, none⟩ = some (.int .i64 0) ∧ w.cell? ⟨b, 3, none⟩ = some (.string { data := #[] }) ∧ w.cell? ⟨b, 4, none⟩ = some (.slice none 0 0) ∧ w.cell? ⟨b, 5, none⟩ = some (.int .i32 0) ∧ w.cell? ⟨b, 6, none⟩ = some (.string { data := #[] }) ∧ w.cell? ⟨b, 7, none⟩ = some xv) ∧
    (w.frozen? ⟨b, 0, none⟩ = false ∧ w.frozen? ⟨b, 1, none⟩ = false ∧ w.frozen? ⟨b, 2, none⟩ = false ∧ w.frozen? ⟨b, 3, none⟩ = false ∧ w.frozen? ⟨b, 4, none⟩ = false ∧ w.frozen? ⟨b, 5, none⟩ = false ∧ w.frozen? ⟨b, 6, none⟩ = false ∧ w.frozen? ⟨b, 7, none⟩ = false) :=
  ⟨⟨rowC h 0 _, rowC h 1 _, rowC h 2 _, rowC h 3 _, rowC h 4 _, rowC h 5 _, rowC h 6 _, rowC h 7 _⟩, ⟨frozen_of_row w b 0 _ _ h, frozen_of_row w b 1 _ _ h, frozen_of_row w b 2 _ _ h, frozen_of_row w b 3 _ _ h, frozen_of_row w b 4 _ _ h, frozen_of_row w b 5 _ _ h, frozen_of_row w b 6 _ _ h, frozen_of_row w b 7 _ _ h⟩⟩
def mdC (vv pv bv : Value) : Array Value := #[.string { data := #[77] }, .slice none 0 0, .slice none 0 0, .slice none 0 0, .slice none 0 0, vv, pv, bv]
theorem mdC_cells {w : World} {b : Nat} {vv pv bv : Value} {t : TypeId} (h : w.heap[b]? = some (.cells (mdC vv pv bv) t (0, 0))) : w.cell? ⟨b, 0, none⟩ = some (.string { data := #[77] }) ∧ w.cell? ⟨b, 1, none⟩ = some (.slice none 0 0) ∧ w.cell? ⟨b, 2, none⟩ = some (.slice none 0 0) ∧ w.cell? ⟨b, 3, none⟩ = some (.slice none 0 0) ∧ w.cell? ⟨b, 4, none⟩ = some (.slice none 0 0) ∧ w.cell? ⟨b, 5, none⟩ = some vv ∧ w.cell? ⟨b, 6, none⟩ = some pv ∧ w.cell? ⟨b, 7, none⟩ = some bv :=
  ⟨rowC h 0 _, rowC h 1 _, rowC h 2 _, rowC h 3 _, rowC h 4 _, rowC h 5 _, rowC h 6 _, rowC h 7 _⟩
theorem nest_form (i : Nat) : (nestE i).t = tyF 0 ∧ (nestE i).i = 0 ∧ (nestE i).s = ByteArray.empty := by cases i <;> exact ⟨rfl, rfl, rfl⟩
theorem twoG_nest {w : World} {b i : Nat} {xv : Value} (h : w.heap[b]? = some (.cells #[.int .i64 0, .int .i64 0, .int .i64 0, .string { data := #[] }, .slice none 0 0, .int .i32 0, .string { data := #[] }, .slice none 0 0, .int .i64 (nestE i).op, .int .i64 0, .int .i64 0, .string { data := #[] }, .slice none 0 0, .int .i32 0, .string { data := #[] }, xv] 36 (0, 0))) : TwoG w b (nestE i) (.slice none 0 0) xv := by
  obtain ⟨e1, e2, e3⟩ := nest_form i
  unfold TwoG
  rw [e1, e2, e3]; exact h
theorem exOkB_zE (F : Nat → Prop) (w : World) : ExOkB F w zE (.slice none 0 0) (.slice none 0 0) := ⟨⟨none, 0, rfl, Nat.le_refl _, by decide, fun h => absurd h (by omega)⟩, none, 0, rfl, Nat.le_refl _, by decide, fun h => absurd h (by omega)⟩
theorem exOkB_add {F : Nat → Prop} {w : World} {u : Nat} {e : Ex} {xv : Value} (hb : F u) (h : TwoG w u e (.slice none 0 0) xv) (hok : ExOkB F w e (.slice none 0 0) xv) : ExOkB F w (addE e) (.slice none 0 0) (.slice (some ⟨u, 0, none⟩) 2 2) := by
  have h : w.heap[u]? = _ := h
  refine ⟨⟨none, 0, rfl, Nat.le_refl _, by decide, fun h => absurd h (by omega)⟩, _, 2, rfl, Nat.le_refl _, by decide, fun _ => ⟨u, 0, rfl, hb, fun j hj => ?_⟩⟩
  rcases (by omega : j = 0 ∨ j = 1) with rfl | rfl
  · exact ⟨_, _, exOkB_zE F w, ⟨rowC h 0 _, rowC h 1 _, rowC h 2 _, rowC h 3 _, rowC h 4 _, rowC h 5 _, rowC h 6 _, rowC h 7 _⟩⟩
  · exact ⟨_, xv, hok, ⟨rowC h 8 _, rowC h 9 _, rowC h 10 _, rowC h 11 _, rowC h 12 _, rowC h 13 _, rowC h 14 _, rowC h 15 _⟩⟩
def moB (k : Nat) : Mo := Mo.mk { data := #[77] } none 0 0 none 0 0 (some ⟨k, 0, none⟩) 1 1
theorem good_B {W : World} {k i : Nat} (hi : i ≤ 100) (h : StsAt W (some ⟨k, 0, none⟩) 1 (fun _ => stE (nestE i))) : Good W (moB k) (fun _ => 0) none 0 0 (fun _ => .none) (fun _ => stE (nestE i)) where
  v := fun h => absurd h (Nat.lt_irrefl 0)
  k := fun _ => by omega
  nv := ⟨Nat.le_refl _, by show 0 ≤ 9223372036854775807; omega, by show 0 ≤ 100; omega⟩
  p := fun h => absurd h (Nat.lt_irrefl 0)
  np := ⟨Nat.le_refl _, by show 0 ≤ 9223372036854775807; omega, by show 0 ≤ 1000; omega⟩
  q := fun h => absurd h (by omega)
  nq := ⟨Nat.le_refl _, by omega⟩
  b := h
  nb := ⟨Nat.le_refl _, by show 1 ≤ 9223372036854775807; omega⟩
  most := by rw [show mostM (moB k).np 0 (fun _ => St.none) (moB k).nb (fun _ => stE (nestE i)) = i + 1 from most_body i _]; omega
  units := by rw [show unitsM (moB k).np 0 (fun _ => St.none) (moB k).nb (fun _ => stE (nestE i)) = 2 * i + 2 from units_body i _]; omega
theorem check_B {W : World} {k i : Nat} (hi : i ≤ 100) (h : StsAt W (some ⟨k, 0, none⟩) 1 (fun _ => stE (nestE i))) (b : Nat) (hb : W.heap[b]? = some (.cells (mdC (.slice none 0 0) (.slice none 0 0) (.slice (some ⟨k, 0, none⟩) 1 1)) 30 (0, 0))) (E : Int) (hE : E = if i + 1 ≤ 12 then 0 else 44) :
    Calls Try.prog 6 #[.slice (some ⟨b, 0, none⟩) 1 1] W fun en w' => en = .returned (.int .i64 E) ∧ Below W.heap.size W w' :=
  (check_M W b 1 (moB k) (fun _ => 0) none 0 0 _ _ (by obtain ⟨m0, m1, m2, m3, m4, m5, m6, m7⟩ := mdC_cells hb; exact ⟨m0, m1, m2, m3, m4, m5, m6, m7⟩) rfl (Nat.le_refl _) (by omega) (good_B hi h) 0 rfl).mono fun en w' ⟨E', he, ht, hb⟩ => by
    rw [show mostM (moB k).np 0 (fun _ => St.none) (moB k).nb (fun _ => stE (nestE i)) = i + 1 from most_body i _, show unitsM (moB k).np 0 (fun _ => St.none) (moB k).nb (fun _ => stE (nestE i)) = 2 * i + 2 from units_body i _] at ht
    rcases ht with ⟨rfl, j, _, h⟩ | ⟨h, ⟨_, h2⟩ | ⟨rfl, _⟩⟩
    · have h : 12 < i + 1 := h
      rw [if_neg (by omega)] at hE; subst hE; exact ⟨he, hb⟩
    · exact absurd h2 (by simp [sumN]; omega)
    · have h : i + 1 ≤ 12 := h 0 (by omega)
      rw [if_pos h] at hE; subst hE; exact ⟨he, hb⟩
set_option maxHeartbeats 6400000 in
theorem needLimits_0 (w : World) (a0 a1 : Int) (a2 : Bool) (q : Nat) (h0 : 0 ≤ a0 ∧ a0 ≤ 255) (h1 : 0 ≤ a1 ∧ a1 ≤ 255) (hw : a0 % 3 = 0) (hq : a1 % 5 = (q : Int)) (hq4 : q ≤ 4) :
    Calls Try.prog 3 #[.int .u8 a0, .int .u8 a1, .bool a2] w fun e w' => e = .returned (.bool true) ∧ Below w.heap.size w w' := by
  obtain ⟨p0, p1⟩ := h0
  obtain ⟨p2, p3⟩ := h1
  go_enter Try.func3, Try.ntmps3
  go_wp2_with fail
  refine (known_prog w).mono ?_
  rintro en w1 ⟨rfl, hbk⟩
  have HB1 := Lib.hid hbk
  clear hbk
  go_wp2_with fail
  obtain ⟨w2, hw2⟩ : ∃ w2 : World, w2 = (w1.alloc (.cells #[.string { data := #[77] }, .slice none 0 0, .slice none 0 0, .slice none 0 0, .slice none 0 0, .slice none 0 0, .slice none 0 0, .slice none 0 0] 30)).alloc (.cells #[.int .i64 0, .int .i64 0, .int .i64 0, .string { data := #[] }, .slice none 0 0, .int .i32 0, .string { data := #[] }, .slice none 0 0] 36) := ⟨_, rfl⟩
  rw [← hw2]
  have HM2 := Lib.hid (show w2.heap[w1.heap.size]? = some (.cells (mdC (.slice none 0 0) (.slice none 0 0) (.slice none 0 0)) 30 (0, 0)) from by rw [hw2]; exact heap_alloc2_old w1 _ _)
  have HE2 := Lib.hid (show w2.heap[w1.heap.size + 1]? = some (.cells (exC 0 (.slice none 0 0)) 36 (0, 0)) from by rw [hw2]; exact heap_alloc2_new w1 _ _)
  have HB2 := Lib.hid (show Below w.heap.size w w2 from by rw [hw2]; exact (HB1.out.alloc HB1.out.size _).alloc (by have := HB1.out.size; simp; omega) _)
  have hs1 := HB1.out.size
  clear hw2
  go_loopw [10] (fun z wr => ∃ (i : Nat) (xv : Value), z = .int .i64 ((i + 1 : Nat) : Int) ∧ i + 1 ≤ 10 + q ∧ wr.heap[w1.heap.size + 1]? = some (.cells (exC (nestE i).op xv) 36 (0, 0)) ∧ ExOkB (fun b => b ≠ w1.heap.size + 1 ∧ b ≠ w1.heap.size) wr (nestE i) (.slice none 0 0) xv ∧ wr.heap[w1.heap.size]? = some (.cells (mdC (.slice none 0 0) (.slice none 0 0) (.slice none 0 0)) 30 (0, 0)) ∧ Below w.heap.size w wr) (fun z _ => 10 + q - (intOf z).toNat)
  case atStart => exact ⟨0, .slice none 0 0, rfl, by omega, HE2.out, exOkB_zE _ _, HM2.out, HB2.out⟩
  case round =>
    obtain ⟨i, xv, rfl, hi, he, hok, hm, hb⟩ := hrel
    obtain ⟨wo, rfl⟩ : ∃ wo : World, wo = wr := ⟨_, rfl⟩
    obtain ⟨⟨c0, c1, c2, c3, c4, c5, c6, c7⟩, f0, f1, f2, f3, f4, f5, f6, f7⟩ := exC_all he
    have hel := (Array.getElem?_eq_some_iff.1 he).1
    have hml := (Array.getElem?_eq_some_iff.1 hm).1
    obtain ⟨xa, xc, rfl, _, _, _⟩ := (ExOkB.ok _ _ _ hok).shape
    obtain ⟨op, hop⟩ : ∃ o, o = (nestE i).op := ⟨_, rfl⟩
    obtain ⟨K, hK⟩ : ∃ o, o = (nestE i).k := ⟨_, rfl⟩
    rw [← hop] at c0
    rw [← hK] at c7
    have HE := Lib.hid he
    have HOK := Lib.hid hok
    have HM := Lib.hid hm
    have HB := Lib.hid hb
    have hsz := hb.size
    have HOP := Lib.hid hop
    have HKK := Lib.hid hK
    clear he hok hm hb hop hK
    by_cases hlt : i + 1 < 10 + q
    · have HEC := Lib.hid (show wo.heap[w1.heap.size + 1]? = some (.cells (exC op (.slice xa K xc)) 36 (0, 0)) from by rw [HOP.out, HKK.out]; exact HE.out)
      go_wp2_with fail
      go_roundw
      case rel =>
        have h8 := set8 HEC.out (.int .i64 9) (.int .i64 0) (.int .i64 0) (.string { data := #[] }) (.slice none 0 0) (.int .i32 0) (.string { data := #[] }) (.slice (some ⟨wo.heap.size, 0, none⟩) 2 2)
        refine ⟨i + 1, .slice (some ⟨wo.heap.size, 0, none⟩) 2 2, by go_num, by omega, blk_alloc h8.1 _, ?_, blk_alloc ((h8.2.1 _ (by omega)).trans HM.out) _, ?_⟩
        · refine exOkB_add (F := fun b => b ≠ w1.heap.size + 1 ∧ b ≠ w1.heap.size) (u := wo.heap.size) (e := nestE i) (xv := .slice xa (nestE i).k xc) ⟨by omega, by omega⟩ (twoG_nest ?_) (ExOkB.imp (fun b hb => hb) ?_ _ _ _ HOK.out)
          · rw [← HOP.out, ← HKK.out]
            exact atNew h8.2.2.symm
          · refine Keeps.trans ?_ (Keeps.below ((Below.refl _ _).alloc (Nat.le_refl _) _))
            repeat (refine Keeps.trans ?_ (Keeps.set _ _ _ (fun h => h.1 rfl)))
            exact fun b o u _ h => h
        · refine Below.alloc ?_ (by rw [h8.2.2]; exact hsz) _
          repeat (refine Below.setCell ?_ (by simp; omega) _)
          exact HB.out
      case measure => simp [intOf]; omega
    · have hi2 : i + 1 = 10 + q := by omega
      have HI2 := Lib.hid hi2
      obtain ⟨m0, m1, m2, m3, m4, m5, m6, m7⟩ := mdC_cells HM.out
      have g7 := frozen_of_row wo w1.heap.size 7 _ _ HM.out
      clear hi2
      go_upto_region 23 with fail
      obtain ⟨wz, hwz⟩ : ∃ wz : World, wz = ((wo.setCell ⟨w1.heap.size, 7, none⟩ (.slice (some ⟨wo.heap.size + 1, 0, none⟩) 1 1)).alloc (.cells #[.int .i64 op, .int .i64 0, .int .i64 0, .string { data := #[] }, .slice none 0 0, .int .i32 0, .string { data := #[] }, .slice xa K xc] 36)).alloc (.cells #[.int .i64 14, .slice (some ⟨wo.heap.size, 0, none⟩) 1 1, .slice none 0 0, .slice none 0 0] 40) := ⟨_, rfl⟩
      rw [← hwz]
      have hss : (wo.setCell ⟨w1.heap.size, 7, none⟩ (.slice (some ⟨wo.heap.size + 1, 0, none⟩) 1 1)).heap.size = wo.heap.size := by simp [World.setCell]
      have hmz : wz.heap[w1.heap.size]? = some (.cells (mdC (.slice none 0 0) (.slice none 0 0) (.slice (some ⟨wo.heap.size + 1, 0, none⟩) 1 1)) 30 (0, 0)) := by
        rw [hwz]; exact blk_alloc (blk_alloc (heap_setCell_same wo w1.heap.size 7 _ _ _ HM.out) _) _
      have hbz : wz.heap[w1.heap.size + 1]? = some (.cells (exC op (.slice xa K xc)) 36 (0, 0)) := by
        rw [hwz, HOP.out, HKK.out]; exact blk_alloc (blk_alloc ((Below.heap_setCell _ _ _ _ (by simp)).trans HE.out) _) _
      have hez : wz.heap[wo.heap.size]? = some (.cells (exC (nestE i).op (.slice xa (nestE i).k xc)) 36 (0, 0)) := by
        rw [hwz, ← HOP.out, ← HKK.out]; exact blk_alloc (atNew hss.symm) _
      have hsz2 : wz.heap[wo.heap.size + 1]? = some (.cells #[.int .i64 14, .slice (some ⟨wo.heap.size, 0, none⟩) 1 1, .slice none 0 0, .slice none 0 0] 40 (0, 0)) := by
        rw [hwz]; exact atNew (by simp [World.setCell])
      have hok2 : ExOk wz (nestE i) (.slice none 0 0) (.slice xa (nestE i).k xc) := by
        refine ExOkB.ok _ _ _ (ExOkB.imp (F' := fun _ => True) (fun b _ => trivial) ?_ _ _ _ HOK.out)
        rw [hwz]
        exact ((Keeps.set _ _ _ (fun h => h.2 rfl)).trans (Keeps.below ((Below.refl _ _).alloc (Nat.le_refl _) _))).trans (Keeps.below ((Below.refl _ _).alloc (Nat.le_refl _) _))
      have hst : StsAt wz (some ⟨wo.heap.size + 1, 0, none⟩) 1 (fun _ => stE (nestE i)) := by
        obtain ⟨e1, e2, e3⟩ := nest_form i
        exact sts_body (e := nestE i) (h := wo.heap.size) (tv := .slice none 0 0) (xv := .slice xa (nestE i).k xc) (T := 36) (by rw [e1, e2, e3]; exact hez) hsz2 hok2
      have HRG := Lib.hid (show ∀ V, Below wz.heap.size wz V → Calls Try.prog 5 #[.agg #[.int .i64 op, .int .i64 0, .int .i64 0, .string { data := #[] }, .slice none 0 0, .int .i32 0, .string { data := #[] }, .slice xa K xc]] V fun en w' => en = .returned (.int .i64 (12 + ((q : Int) - 2))) ∧ Below V.heap.size V w' from fun V hv => by
        obtain ⟨e1, e2, e3⟩ := nest_form i
        have := regs_prog (nestE i) V _ _ (by rw [regs_nest]; omega) (ExOk.below hv (Nat.le_refl _) _ _ _ hok2)
        unfold exV at this
        rw [regs_nest, e1, e2, e3, ← HOP.out, ← HKK.out, show ((i + 1 : Nat) : Int) = 12 + ((q : Int) - 2) from by have := HI2.out; omega] at this
        exact this)
      have HCK := Lib.hid (fun V (b : Nat) (E : Int) (hv : Below wz.heap.size wz V) hb (hE : E = if i + 1 ≤ 12 then 0 else 44) => check_B (W := V) (k := wo.heap.size + 1) (i := i) (by omega) (hst.below hv (Nat.le_refl _)) b hb E hE)
      have HBW := Lib.hid (show Below w.heap.size w wz from by
        rw [hwz]
        exact ((HB.out.setCell (by simp; omega) _).alloc (by rw [hss]; exact hsz) _).alloc (by simp [World.setCell]; omega) _)
      have HMZ := Lib.hid hmz
      have HBZ := Lib.hid hbz
      have hlz := (Array.getElem?_eq_some_iff.1 hmz).1
      clear hwz hss hmz hez hsz2 hok2 hst HM c0 c1 c2 c3 c4 c5 c6 c7 f0 f1 f2 f3 f4 f5 f6 f7 m0 m1 m2 m3 m4 m5 m6 m7 g7 hbz
      obtain ⟨⟨c0, c1, c2, c3, c4, c5, c6, c7⟩, _⟩ := exC_all HBZ.out
      by_cases hR : (q : Int) - 2 ≤ 0
      · go_wp2_with fail
        refine (HRG.out wz (Below.refl _ _)).mono ?_
        rintro en x1 ⟨rfl, hb⟩
        have Bx1 := Lib.hid hb
        clear hb c0 c1 c2 c3 c4 c5 c6 c7
        obtain ⟨m0, m1, m2, m3, m4, m5, m6, m7⟩ := mdC_cells (heap_keep HMZ.out Bx1.out)
        have hlx1 : w1.heap.size < x1.heap.size := Nat.lt_of_lt_of_le hlz Bx1.out.size
        go_wp2_with fail
        have hbax2 : Below x1.heap.size x1 (x1.alloc (.cells #[.string { data := #[77] }, .slice none 0 0, .slice none 0 0, .slice none 0 0, .slice none 0 0, .slice none 0 0, .slice none 0 0, .slice (some ⟨wo.heap.size + 1, 0, none⟩) 1 1] 30)) := (Below.refl _ _).alloc (Nat.le_refl _) _
        refine (HCK.out _ x1.heap.size 0 (Bx1.out.trans (hbax2.mono Bx1.out.size)) (heap_alloc_new x1 _) (by have := HI2.out; rw [if_pos (by omega)])).mono ?_
        rintro en x2 ⟨rfl, hb⟩
        have Bx2 := Lib.hid ((Bx1.out.trans (hbax2.mono Bx1.out.size)).trans (hb.mono (Nat.le_trans Bx1.out.size hbax2.size)))
        clear hb hbax2 m0 m1 m2 m3 m4 m5 m6 m7
        go_wp2_with fail
        go_ret
        exact ⟨rfl, HBW.out.trans (Bx2.out.mono HBW.out.size)⟩
      · go_wp2_with fail
        refine (HRG.out wz (Below.refl _ _)).mono ?_
        rintro en x1 ⟨rfl, hb⟩
        have Bx1 := Lib.hid hb
        clear hb c0 c1 c2 c3 c4 c5 c6 c7
        obtain ⟨m0, m1, m2, m3, m4, m5, m6, m7⟩ := mdC_cells (heap_keep HMZ.out Bx1.out)
        have hlx1 : w1.heap.size < x1.heap.size := Nat.lt_of_lt_of_le hlz Bx1.out.size
        go_wp2_with fail
        have hbax2 : Below x1.heap.size x1 (x1.alloc (.cells #[.string { data := #[77] }, .slice none 0 0, .slice none 0 0, .slice none 0 0, .slice none 0 0, .slice none 0 0, .slice none 0 0, .slice (some ⟨wo.heap.size + 1, 0, none⟩) 1 1] 30)) := (Below.refl _ _).alloc (Nat.le_refl _) _
        refine (HCK.out _ x1.heap.size 44 (Bx1.out.trans (hbax2.mono Bx1.out.size)) (heap_alloc_new x1 _) (by have := HI2.out; rw [if_neg (by omega)])).mono ?_
        rintro en x2 ⟨rfl, hb⟩
        have Bx2 := Lib.hid ((Bx1.out.trans (hbax2.mono Bx1.out.size)).trans (hb.mono (Nat.le_trans Bx1.out.size hbax2.size)))
        clear hb hbax2 m0 m1 m2 m3 m4 m5 m6 m7
        obtain ⟨m0, m1, m2, m3, m4, m5, m6, m7⟩ := mdC_cells (heap_keep HMZ.out Bx2.out)
        have hlx2 : w1.heap.size < x2.heap.size := Nat.lt_of_lt_of_le hlz Bx2.out.size
        go_wp2_with fail
        have hbax3 : Below x2.heap.size x2 (x2.alloc (.cells #[.string { data := #[77] }, .slice none 0 0, .slice none 0 0, .slice none 0 0, .slice none 0 0, .slice none 0 0, .slice none 0 0, .slice (some ⟨wo.heap.size + 1, 0, none⟩) 1 1] 30)) := (Below.refl _ _).alloc (Nat.le_refl _) _
        refine (HCK.out _ x2.heap.size 44 (Bx2.out.trans (hbax3.mono Bx2.out.size)) (heap_alloc_new x2 _) (by have := HI2.out; rw [if_neg (by omega)])).mono ?_
        rintro en x3 ⟨rfl, hb⟩
        have Bx3 := Lib.hid ((Bx2.out.trans (hbax3.mono Bx2.out.size)).trans (hb.mono (Nat.le_trans Bx2.out.size hbax3.size)))
        clear hb hbax3 m0 m1 m2 m3 m4 m5 m6 m7
        go_wp2_with fail
        go_ret
        exact ⟨by show Ending.returned (.bool (!decide ((q : Int) - 2 ≤ 0))) = _; rw [decide_eq_false (show ¬ ((q : Int) - 2 ≤ 0) by omega)]; rfl, HBW.out.trans (Bx3.out.mono HBW.out.size)⟩
end Go.Proofs.Ytmidkomdmnncoaa
