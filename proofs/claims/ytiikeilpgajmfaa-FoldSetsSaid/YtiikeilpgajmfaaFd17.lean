/- Fold: how great a tree is: that it is told, and only the scale's cell turns. (Printed by gen_fd17.py.) -/
import Derived.Test.YtiikeilpgajmfaaFd15
namespace Go.Proofs.Ytiikeilpgajmfaa
open Go.RowKit Go.Waf
set_option maxRecDepth 100000
set_option linter.unusedVariables false
set_option linter.unusedSimpArgs false

def SomeBool (en : Ending) : Prop := ∃ b, en = .returned (.bool b)
set_option maxHeartbeats 3200000 in
theorem depth_any : ∀ (e : Ex) (w : World) (tv xv : Value) (left : Int), 0 ≤ left → left ≤ 1000 → ExOk w e tv xv → Calls Try.prog 15 #[exV e tv xv, .int .i64 left] w fun en w' => SomeBool en ∧ Below w.heap.size w w' := by
  intro e
  induction e with
  | none => intro w tv xv left _ _ h; exact h.elim
  | mk op t i s k x ih =>
  intro w tv xv left hl0 hl1 hok
  obtain ⟨hty, a, c, rfl, h1, h2, hx⟩ := hok
  obtain ⟨ta, tc, rfl, _, _⟩ := hty.shape
  show Calls _ _ #[.agg #[.int .i64 op, .int .i64 t.form, .int .i64 t.num, .string t.name, .slice ta t.k tc, .int .i32 i, .string s, .slice a k c], _] w _
  obtain ⟨w1, hw1⟩ : ∃ w1 : World, w1 = w.alloc (.cells #[.int .i64 op, .int .i64 t.form, .int .i64 t.num, .string t.name, .slice ta t.k tc, .int .i32 i, .string s, .slice a k c] 27) := ⟨_, rfl⟩
  have hb01 : Below w.heap.size w w1 := by rw [hw1]; exact (Below.refl _ _).alloc (Nat.le_refl _) _
  have HE7 := Lib.hid (row8 (show w1.heap[w.heap.size]? = some (.cells #[.int .i64 op, .int .i64 t.form, .int .i64 t.num, .string t.name, .slice ta t.k tc, .int .i32 i, .string s, .slice a k c] 27 (0, 0)) from by rw [hw1]; exact heap_alloc_new w _) 7 _ rfl)
  have HX := Lib.hid (show ExsAt w1 a k x from ExsAt.below hx hb01 (Nat.le_refl _))
  have HI := Lib.hid ih
  have HB01 := Lib.hid hb01
  have HW1 := Lib.hid hw1
  have HS1 := Lib.hid (show w.heap.size ≤ w1.heap.size from hb01.size)
  clear hty hx ih hw1 hb01
  by_cases hz : left = 0
  · subst hz
    go_enter Try.func15, Try.ntmps15
    go_wp2_with fail
    go_ret
    exact ⟨⟨_, rfl⟩, by rw [← HW1.out]; exact HB01.out⟩
  · have hzb : (left == 0) = false := by simp [hz]
    by_cases hk : 30 < k
    · have hk2 : (30 : Int) < (k : Int) := by omega
      go_enter Try.func15, Try.ntmps15
      go_wp2_with fail
      go_ret
      exact ⟨⟨_, rfl⟩, by rw [← HW1.out]; exact HB01.out⟩
    · have hk2 : ¬ (30 : Int) < (k : Int) := by omega
      go_enter Try.func15, Try.ntmps15
      go_wp2_with fail
      rw [← HW1.out]
      go_loopw [5] (fun z wr => ∃ j : Nat, j ≤ k ∧ z = .int .i64 (j : Int) ∧ Below w1.heap.size w1 wr) (fun z _ => k - (intOf z).toNat)
      case atStart => exact ⟨0, by omega, rfl, Below.refl _ _⟩
      case round =>
        obtain ⟨j, hj, rfl, hb⟩ := hrel
        obtain ⟨wo, rfl⟩ : ∃ wo : World, wo = wr := ⟨_, rfl⟩
        have c7 : wo.cell? ⟨w.heap.size, 7, none⟩ = some (.slice a k c) := cell_below hb (Nat.le_refl _) HE7.out
        by_cases hlt : j < k
        · obtain ⟨b, o, rfl, hc⟩ := HX.out (by omega)
          obtain ⟨tu, xu, hok, hcc⟩ := hc j hlt
          obtain ⟨d0, d1, d2, d3, d4, d5, d6, d7⟩ := hcc.below hb (Nat.le_refl _)
          have HC := Lib.hid (HI.out j wo tu xu (left - 1) (by omega) (by omega) (ExOk.below hb (Nat.le_refl _) _ _ _ hok))
          obtain ⟨E, hE⟩ : ∃ E, E = x j := ⟨_, rfl⟩
          rw [← hE] at HC d0 d1 d2 d3 d5 d6
          unfold exV at HC
          have HB := Lib.hid hb
          clear hc hok hcc hb hE
          go_wp2_with fail
          refine HC.out.mono ?_
          rintro en w2 ⟨⟨r, rfl⟩, hb2⟩
          have HB2 := Lib.hid (HB.out.trans (hb2.mono HB.out.size))
          clear hb2
          cases r
          · go_wp2_with fail
            go_ret
            exact ⟨⟨_, rfl⟩, HB01.out.trans (HB2.out.mono HS1.out)⟩
          · go_wp2_with fail
            go_roundw
            case rel => exact ⟨j + 1, by omega, by go_num, HB2.out⟩
            case measure => simp [intOf]; omega
        · obtain rfl : j = k := by omega
          have HB := Lib.hid (HB01.out.trans (hb.mono HS1.out))
          clear hb
          go_wp2_with fail
          go_ret
          exact ⟨⟨_, rfl⟩, HB.out⟩
/-- The scale lies at q. -/
def ScOk (q : Nat) (w : World) : Prop := ∃ z : Int, w.heap[q]? = some (.cells #[.int .i64 z] 43 (0, 0))
theorem ScOk.lt {q : Nat} {w : World} (h : ScOk q w) : q < w.heap.size := by obtain ⟨z, hz⟩ := h; exact (Array.getElem?_eq_some_iff.1 hz).1
theorem ScOk.below {q : Nat} {w w' : World} (h : ScOk q w) (hb : Below w.heap.size w w') : ScOk q w' := by
  obtain ⟨z, hz⟩ := h
  exact ⟨z, by rw [hb.block q (Array.getElem?_eq_some_iff.1 hz).1]; exact hz⟩
def ScPost (q : Nat) (w : World) (en : Ending) (w' : World) : Prop := SomeBool en ∧ ScOk q w' ∧ Fr (fun k => k = q) w w'
set_option maxHeartbeats 3200000 in
theorem take_any (q : Nat) (w : World) (n : Int) (h : ScOk q w) : Calls Try.prog 48 #[.pointer (some ⟨q, 0, none⟩), .int .i64 n] w (ScPost q w) := by
  obtain ⟨z, hz⟩ := h
  have c0 : w.cell? ⟨q, 0, none⟩ = some (.int .i64 z) := row8 hz 0 _ rfl
  have f0 := frozen_of_row w q 0 _ _ hz
  have HZ := Lib.hid hz
  clear hz
  go_enter Try.func48, Try.ntmps48
  go_wp2_with fail
  all_goals go_ret
  all_goals exact ⟨⟨_, rfl⟩, ⟨_, by rw [heap_setCell_same _ _ 0 _ _ _ HZ.out]; rfl⟩, (Fr.refl (fun k => k = q) w).setCell (.inr rfl) _⟩
set_option maxHeartbeats 3200000 in
theorem text_any (q : Nat) (w : World) (s : ByteArray) (h : ScOk q w) : Calls Try.prog 28 #[.pointer (some ⟨q, 0, none⟩), .string s] w (ScPost q w) := by
  have H := Lib.hid (fun n => take_any q w n h)
  clear h
  go_enter Try.func28, Try.ntmps28
  go_wp2_with fail
  refine (H.out _).mono ?_
  rintro en w2 ⟨⟨b, rfl⟩, h2⟩
  have H2 := Lib.hid h2
  clear h2
  go_wp2_with fail
  go_ret
  exact ⟨⟨_, rfl⟩, H2.out⟩
theorem Fr.toBelow {q : Nat} {w0 w w' : World} (hb : Below w0.heap.size w0 w) (hq : w0.heap.size ≤ q) (h : Fr (fun k => k = q) w w') : Below w0.heap.size w0 w' :=
  hb.trans (h.below hb.size (fun i hi he => by omega))
set_option maxHeartbeats 3200000 in
theorem typ_any : ∀ (t : Ty) (w0 w : World) (q : Nat) (v : Value) (left : Int), 0 ≤ left → left ≤ 1000 → TyOk w0 t v → Below w0.heap.size w0 w → w0.heap.size ≤ q → ScOk q w → Calls Try.prog 29 #[.pointer (some ⟨q, 0, none⟩), tyV t v, .int .i64 left] w (ScPost q w) := by
  intro t
  induction t with
  | none => intro w0 w q v left _ _ h; exact h.elim
  | mk f n s k of ih =>
  intro w0 w q v left hl0 hl1 hok hbw hq hsc
  obtain ⟨a, c, rfl, h1, h2, hx⟩ := hok
  show Calls _ _ #[_, .agg #[.int .i64 f, .int .i64 n, .string s, .slice a k c], _] w _
  obtain ⟨w1, hw1⟩ : ∃ w1 : World, w1 = w.alloc (.cells #[.int .i64 f, .int .i64 n, .string s, .slice a k c] 24) := ⟨_, rfl⟩
  have hb01 : Below w.heap.size w w1 := by rw [hw1]; exact (Below.refl _ _).alloc (Nat.le_refl _) _
  have hqw := hsc.lt
  have HE := Lib.hid (show w1.heap[w.heap.size]? = some (.cells #[.int .i64 f, .int .i64 n, .string s, .slice a k c] 24 (0, 0)) from by rw [hw1]; exact heap_alloc_new w _)
  have HSC := Lib.hid (show ScOk q w1 from hsc.below hb01)
  have HSC0 := Lib.hid hsc
  have HB0 := Lib.hid (hbw.trans (hb01.mono hbw.size))
  have HFW := Lib.hid (show Fr (fun k => k = q) w w1 from Fr.of_new hb01)
  have HX := Lib.hid hx
  have HI := Lib.hid ih
  have HW1 := Lib.hid hw1
  have HS1 := Lib.hid (show w1.heap.size = w.heap.size + 1 from by rw [hw1]; simp)
  clear hx ih hw1 hb01 hsc hbw
  by_cases hz : left = 0
  · subst hz
    go_enter Try.func29, Try.ntmps29
    go_wp2_with fail
    go_ret
    exact ⟨⟨_, rfl⟩, by rw [← HW1.out]; exact HSC.out, by rw [← HW1.out]; exact HFW.out⟩
  · have hzb : (left == 0) = false := by simp [hz]
    go_enter Try.func29, Try.ntmps29
    go_wp2_with fail
    rw [← HW1.out]
    refine (text_any q w1 s HSC.out).mono ?_
    rintro en w2 ⟨⟨r, rfl⟩, hs2, hf2⟩
    have HS2 := Lib.hid hs2
    have HF2 := Lib.hid hf2
    clear hs2 hf2
    cases r
    · go_wp2_with fail
      go_ret
      exact ⟨⟨_, rfl⟩, HS2.out, HFW.out.trans HF2.out (fun _ _ h => h)⟩
    · have HC3 := Lib.hid (show ∀ W, Fr (fun k => k = q) w1 W → W.cell? ⟨w.heap.size, 3, none⟩ = some (.slice a k c) from fun W hf => (hf.cell (by rw [HS1.out]; show w.heap.size < _; omega) (by show ¬ w.heap.size = q; omega)).trans (row8 HE.out 3 _ rfl))
      have cz := HC3.out w2 HF2.out
      go_wp2_with fail
      clear cz
      go_loopw [7] (fun z wr => ∃ j : Nat, j ≤ k ∧ z = .int .i64 (j : Int) ∧ ScOk q wr ∧ Fr (fun k => k = q) w1 wr) (fun z _ => k - (intOf z).toNat)
      case atStart => exact ⟨0, by omega, rfl, HS2.out, HF2.out⟩
      case round =>
        obtain ⟨j, hj, rfl, hs, hf⟩ := hrel
        obtain ⟨wo, rfl⟩ : ∃ wo : World, wo = wr := ⟨_, rfl⟩
        have c3 := HC3.out wo hf
        have HS := Lib.hid hs
        have HF := Lib.hid hf
        by_cases hlt : j < k
        · have hb := Fr.toBelow HB0.out hq hf
          obtain ⟨b, o, rfl, hc⟩ := HX.out (by omega)
          obtain ⟨u, hu, p0, p1, p2, p3⟩ := hc j hlt
          have d0 := cell_below hb (Nat.le_refl _) p0
          have d1 := cell_below hb (Nat.le_refl _) p1
          have d2 := cell_below hb (Nat.le_refl _) p2
          have d3 := cell_below hb (Nat.le_refl _) p3
          have HC := Lib.hid (HI.out j w0 wo q u (left - 1) (by omega) (by omega) hu hb hq hs)
          obtain ⟨E, hE⟩ : ∃ E, E = of j := ⟨_, rfl⟩
          rw [← hE] at HC d0 d1 d2
          unfold tyV at HC
          clear hc hu hb hE hs hf p0 p1 p2 p3
          go_wp2_with fail
          refine HC.out.mono ?_
          rintro en w3 ⟨⟨r, rfl⟩, hs3, hf3⟩
          have HS3 := Lib.hid hs3
          have HF3 := Lib.hid (HF.out.trans hf3 (fun _ _ h => h))
          clear hs3 hf3
          cases r
          · go_wp2_with fail
            go_ret
            exact ⟨⟨_, rfl⟩, HS3.out, HFW.out.trans HF3.out (fun _ _ h => h)⟩
          · go_wp2_with fail
            go_roundw
            case rel => exact ⟨j + 1, by omega, by go_num, HS3.out, HF3.out⟩
            case measure => simp [intOf]; omega
        · obtain rfl : j = k := by omega
          clear hs hf
          go_wp2_with fail
          go_ret
          exact ⟨⟨_, rfl⟩, HS.out, HFW.out.trans HF.out (fun _ _ h => h)⟩
set_option maxHeartbeats 3200000 in
theorem expr_any : ∀ (e : Ex) (w0 w : World) (q : Nat) (tv xv : Value) (left : Int), 0 ≤ left → left ≤ 1000 → ExOk w0 e tv xv → Below w0.heap.size w0 w → w0.heap.size ≤ q → ScOk q w → Calls Try.prog 16 #[.pointer (some ⟨q, 0, none⟩), exV e tv xv, .int .i64 left] w (ScPost q w) := by
  intro e
  induction e with
  | none => intro w0 w q tv xv left _ _ h; exact h.elim
  | mk op t i s k x ih =>
  intro w0 w q tv xv left hl0 hl1 hok hbw hq hsc
  obtain ⟨hty, a, c, rfl, h1, h2, hx⟩ := hok
  obtain ⟨ta, tc, rfl, _, _⟩ := hty.shape
  show Calls _ _ #[_, .agg #[.int .i64 op, .int .i64 t.form, .int .i64 t.num, .string t.name, .slice ta t.k tc, .int .i32 i, .string s, .slice a k c], _] w _
  obtain ⟨w1, hw1⟩ : ∃ w1 : World, w1 = w.alloc (.cells #[.int .i64 op, .int .i64 t.form, .int .i64 t.num, .string t.name, .slice ta t.k tc, .int .i32 i, .string s, .slice a k c] 27) := ⟨_, rfl⟩
  have hb01 : Below w.heap.size w w1 := by rw [hw1]; exact (Below.refl _ _).alloc (Nat.le_refl _) _
  have hqw := hsc.lt
  have HE := Lib.hid (show w1.heap[w.heap.size]? = some (.cells #[.int .i64 op, .int .i64 t.form, .int .i64 t.num, .string t.name, .slice ta t.k tc, .int .i32 i, .string s, .slice a k c] 27 (0, 0)) from by rw [hw1]; exact heap_alloc_new w _)
  have HSC := Lib.hid (show ScOk q w1 from hsc.below hb01)
  have HB0 := Lib.hid (hbw.trans (hb01.mono hbw.size))
  have HFW := Lib.hid (show Fr (fun k => k = q) w w1 from Fr.of_new hb01)
  have HX := Lib.hid hx
  have HTY := Lib.hid hty
  have HI := Lib.hid ih
  have HW1 := Lib.hid hw1
  have HS1 := Lib.hid (show w1.heap.size = w.heap.size + 1 from by rw [hw1]; simp)
  have HCJ := Lib.hid (show ∀ W, Fr (fun k => k = q) w1 W → ∀ (j : Nat) (u : Value), (#[.int .i64 op, .int .i64 t.form, .int .i64 t.num, .string t.name, .slice ta t.k tc, .int .i32 i, .string s, .slice a k c] : Array Value)[j]? = some u → W.cell? ⟨w.heap.size, j, none⟩ = some u from fun W hf j u hu => (hf.cell (by rw [HS1.out]; show w.heap.size < _; omega) (by show ¬ w.heap.size = q; omega)).trans (row8 HE.out j u hu))
  clear hx hty ih hw1 hb01 hsc hbw
  by_cases hz : left = 0
  · subst hz
    go_enter Try.func16, Try.ntmps16
    go_wp2_with fail
    go_ret
    exact ⟨⟨_, rfl⟩, by rw [← HW1.out]; exact HSC.out, by rw [← HW1.out]; exact HFW.out⟩
  · have hzb : (left == 0) = false := by simp [hz]
    go_enter Try.func16, Try.ntmps16
    go_wp2_with fail
    rw [← HW1.out]
    refine (text_any q w1 s HSC.out).mono ?_
    rintro en w2 ⟨⟨r, rfl⟩, hs2, hf2⟩
    have HS2 := Lib.hid hs2
    have HF2 := Lib.hid hf2
    have y1 := HCJ.out w2 hf2 1 _ rfl
    have y2 := HCJ.out w2 hf2 2 _ rfl
    have y3 := HCJ.out w2 hf2 3 _ rfl
    have y4 := HCJ.out w2 hf2 4 _ rfl
    have HT := Lib.hid (typ_any t w0 w2 q (.slice ta t.k tc) 300 (by decide) (by decide) HTY.out (Fr.toBelow HB0.out hq hf2) hq hs2)
    unfold tyV at HT
    clear hs2 hf2
    cases r
    · go_wp2_with fail
      go_ret
      exact ⟨⟨_, rfl⟩, HS2.out, HFW.out.trans HF2.out (fun _ _ h => h)⟩
    · go_wp2_with fail
      refine HT.out.mono ?_
      rintro en w4 ⟨⟨r, rfl⟩, hs4, hf4⟩
      have HS4 := Lib.hid hs4
      have HF4 := Lib.hid (HF2.out.trans hf4 (fun _ _ h => h))
      clear hs4 hf4 y1 y2 y3 y4
      cases r
      · go_wp2_with fail
        go_ret
        exact ⟨⟨_, rfl⟩, HS4.out, HFW.out.trans HF4.out (fun _ _ h => h)⟩
      · go_wp2_with fail
        go_loopw [7] (fun z wr => ∃ j : Nat, j ≤ k ∧ z = .int .i64 (j : Int) ∧ ScOk q wr ∧ Fr (fun k => k = q) w1 wr) (fun z _ => k - (intOf z).toNat)
        case atStart => exact ⟨0, by omega, rfl, HS4.out, HF4.out⟩
        case round =>
          obtain ⟨j, hj, rfl, hs, hf⟩ := hrel
          obtain ⟨wo, rfl⟩ : ∃ wo : World, wo = wr := ⟨_, rfl⟩
          have c7 : wo.cell? ⟨w.heap.size, 7, none⟩ = some (.slice a k c) := HCJ.out wo hf 7 _ rfl
          have HS := Lib.hid hs
          have HF := Lib.hid hf
          by_cases hlt : j < k
          · have hb := Fr.toBelow HB0.out hq hf
            obtain ⟨b, o, rfl, hc⟩ := HX.out (by omega)
            obtain ⟨tu, xu, hu, hcc⟩ := hc j hlt
            obtain ⟨d0, d1, d2, d3, d4, d5, d6, d7⟩ := hcc.below hb (Nat.le_refl _)
            have HC := Lib.hid (HI.out j w0 wo q tu xu (left - 1) (by omega) (by omega) hu hb hq hs)
            obtain ⟨E, hE⟩ : ∃ E, E = x j := ⟨_, rfl⟩
            rw [← hE] at HC d0 d1 d2 d3 d5 d6
            unfold exV at HC
            clear hc hu hcc hb hE hs hf
            go_wp2_with fail
            refine HC.out.mono ?_
            rintro en w3 ⟨⟨r, rfl⟩, hs3, hf3⟩
            have HS3 := Lib.hid hs3
            have HF3 := Lib.hid (HF.out.trans hf3 (fun _ _ h => h))
            clear hs3 hf3
            cases r
            · go_wp2_with fail
              go_ret
              exact ⟨⟨_, rfl⟩, HS3.out, HFW.out.trans HF3.out (fun _ _ h => h)⟩
            · go_wp2_with fail
              go_roundw
              case rel => exact ⟨j + 1, by omega, by go_num, HS3.out, HF3.out⟩
              case measure => simp [intOf]; omega
          · obtain rfl : j = k := by omega
            clear hs hf
            go_wp2_with fail
            go_ret
            exact ⟨⟨_, rfl⟩, HS.out, HFW.out.trans HF.out (fun _ _ h => h)⟩
end Go.Proofs.Ytiikeilpgajmfaa
