/- Trees: modules that are small. (Printed by wip/scripts/gen_tr12.py.) -/
import Derived.Test.YtipcnkgojonmjaaTr11
namespace Go.Proofs.Ytipcnkgojonmjaa
open Go.RowKit Go.Waf
set_option maxRecDepth 100000
set_option linter.unusedVariables false
set_option linter.unusedSimpArgs false

def smMod (nv : Nat) (x : Nat → Vr) (nb : Nat) (f : Nat → St) : Bool := smVars nv x && decide (nestS nb f ≤ 64) && smSts nb f
def modV (va : Option Addr) (nv vc : Nat) (ba : Option Addr) (nb bc : Nat) : Value := .agg #[.string { data := #[77] }, .slice none 0 0, .slice none 0 0, .slice none 0 0, .slice none 0 0, .slice va nv vc, .slice none 0 0, .slice ba nb bc]
theorem list0 (w : World) : Calls Try.prog 14 #[.int .i64 0] w fun en w' => en = .returned (.bool true) ∧ w = w' := list_prog w 0
theorem few0 (w : World) : Calls Try.prog 28 #[.int .i64 0] w fun en w' => en = .returned (.bool true) ∧ w = w' := few_ref w 0
theorem nameM (w : World) : Calls Try.prog 15 #[.string { data := #[77] }] w fun en w' => en = .returned (.bool true) ∧ w = w' := name_prog w _
theorem vars0 (w : World) : Calls Try.prog 16 #[.slice none 0 0] w fun en w' => en = .returned (.bool true) ∧ Below w.heap.size w w' := smallVars_prog w none 0 0 (fun _ => ⟨ByteArray.empty, false, .none⟩) (Nat.le_refl _) (by decide) (fun h => absurd h (by omega))
theorem vars0_ref (w : World) : Calls Try.prog 29 #[.slice none 0 0] w fun en w' => en = .returned (.bool true) ∧ Below w.heap.size w w' := smallVars_ref w none 0 0 (fun _ => ⟨ByteArray.empty, false, .none⟩) (Nat.le_refl _) (by decide) (fun h => absurd h (by omega))
set_option maxHeartbeats 6400000 in
theorem small_prog (w : World) (va : Option Addr) (nv vc : Nat) (x : Nat → Vr) (ba : Option Addr) (nb bc : Nat) (f : Nat → St) (h1 : nv ≤ vc) (h2 : vc ≤ 9223372036854775807) (h3 : nb ≤ bc) (h4 : bc ≤ 9223372036854775807) (hv : VrsAt w va nv x) (hb : StsAt w ba nb f) (hd : DepsOk nb f) (hn : nestS nb f ≤ 100000) :
    Calls Try.prog 5 #[modV va nv vc ba nb bc] w fun en w' => en = .returned (.bool (smMod nv x nb f)) ∧ Below w.heap.size w w' := by
  unfold modV
  have HV := Lib.hid (fun W (hbw : Below w.heap.size w W) => smallVars_prog W va nv vc x h1 h2 (hv.below hbw (Nat.le_refl _)))
  have HN := Lib.hid (fun W (hbw : Below w.heap.size w W) => nest_prog 100001 (by omega) nb f (by omega) W ba bc h3 h4 (hb.below hbw (Nat.le_refl _)))
  have HS := Lib.hid (fun W (hbw : Below w.heap.size w W) => smallBody_prog 100001 (by omega) nb f (by omega) W ba bc h3 h4 (hb.below hbw (Nat.le_refl _)) hd)
  have HR := Lib.hid (show smMod nv x nb f = (smVars nv x && decide (nestS nb f ≤ 64) && smSts nb f) from rfl)
  obtain ⟨B1, hB1⟩ : ∃ b, b = smVars nv x := ⟨_, rfl⟩
  obtain ⟨N, hN⟩ : ∃ b, b = nestS nb f := ⟨_, rfl⟩
  obtain ⟨B3, hB3⟩ : ∃ b, b = smSts nb f := ⟨_, rfl⟩
  obtain ⟨R, hR⟩ : ∃ b, b = smMod nv x nb f := ⟨_, rfl⟩
  rw [← hR, ← hB1, ← hN, ← hB3] at HR
  rw [← hR]
  simp only [← hB1] at HV
  simp only [← hN] at HN
  simp only [← hB3] at HS
  rw [← hN] at hn
  obtain ⟨w1, hw1⟩ : ∃ w1 : World, w1 = w.alloc (.cells #[.string { data := #[77] }, .slice none 0 0, .slice none 0 0, .slice none 0 0, .slice none 0 0, .slice va nv vc, .slice none 0 0, .slice ba nb bc] 30) := ⟨_, rfl⟩
  have HB1 := Lib.hid (show Below w.heap.size w w1 from by rw [hw1]; exact (Below.refl _ _).alloc (Nat.le_refl _) _)
  have HZ := Lib.hid (show ∀ W, Below w1.heap.size w1 W → W.cell? ⟨w.heap.size, 0, none⟩ = some (.string { data := #[77] }) ∧ W.cell? ⟨w.heap.size, 1, none⟩ = some (.slice none 0 0) ∧ W.cell? ⟨w.heap.size, 2, none⟩ = some (.slice none 0 0) ∧ W.cell? ⟨w.heap.size, 3, none⟩ = some (.slice none 0 0) ∧ W.cell? ⟨w.heap.size, 4, none⟩ = some (.slice none 0 0) ∧ W.cell? ⟨w.heap.size, 5, none⟩ = some (.slice va nv vc) ∧ W.cell? ⟨w.heap.size, 6, none⟩ = some (.slice none 0 0) ∧ W.cell? ⟨w.heap.size, 7, none⟩ = some (.slice ba nb bc) from fun W hbw => by
    have hz : w1.heap[w.heap.size]? = some (.cells #[.string { data := #[77] }, .slice none 0 0, .slice none 0 0, .slice none 0 0, .slice none 0 0, .slice va nv vc, .slice none 0 0, .slice ba nb bc] 30 (0, 0)) := by rw [hw1]; exact heap_alloc_new w _
    exact ⟨cell_below hbw (Nat.le_refl _) (rowC hz 0 _), cell_below hbw (Nat.le_refl _) (rowC hz 1 _), cell_below hbw (Nat.le_refl _) (rowC hz 2 _), cell_below hbw (Nat.le_refl _) (rowC hz 3 _), cell_below hbw (Nat.le_refl _) (rowC hz 4 _), cell_below hbw (Nat.le_refl _) (rowC hz 5 _), cell_below hbw (Nat.le_refl _) (rowC hz 6 _), cell_below hbw (Nat.le_refl _) (rowC hz 7 _)⟩)
  have HW1 := Lib.hid hw1
  have hs1 : w.heap.size ≤ w1.heap.size := HB1.out.size
  obtain ⟨c0, c1, c2, c3, c4, c5, c6, c7⟩ := HZ.out w1 (Below.refl _ _)
  have L0 := list0
  have V0 := vars0
  clear hB1 hN hB3 hR hv hb hd hw1
  cases B1
  · obtain rfl : R = false := by rw [HR.out]; simp
    go_enter Try.func5, Try.ntmps5
    have HY1 := Lib.hid (Below.refl w1.heap.size w1)
    go_wp2_with fail
    rw [← HW1.out]
    refine (L0 _).mono ?_
    rintro en wq ⟨rfl, rfl⟩
    go_wp2_with fail
    refine (L0 _).mono ?_
    rintro en wq ⟨rfl, rfl⟩
    go_wp2_with fail
    refine (L0 _).mono ?_
    rintro en wq ⟨rfl, rfl⟩
    go_wp2_with fail
    refine (L0 _).mono ?_
    rintro en wq ⟨rfl, rfl⟩
    go_wp2_with fail
    refine (nameM _).mono ?_
    rintro en wq ⟨rfl, rfl⟩
    go_wp2_with fail
    refine (V0 _ ).mono ?_
    rintro en w2 ⟨rfl, hx2⟩
    have HY2 := Lib.hid (HY1.out.trans (hx2.mono HY1.out.size))
    obtain ⟨e0, e1, e2, e3, e4, e5, e6, e7⟩ := HZ.out w2 HY2.out
    clear hx2
    go_wp2_with fail
    refine (HV.out _ (HB1.out.trans (HY2.out.mono hs1))).mono ?_
    rintro en w3 ⟨rfl, hx3⟩
    have HY3 := Lib.hid (HY2.out.trans (hx3.mono HY2.out.size))
    obtain ⟨e0, e1, e2, e3, e4, e5, e6, e7⟩ := HZ.out w3 HY3.out
    clear hx3
    go_wp2_with fail
    go_ret
    exact ⟨rfl, (HB1.out.trans (HY3.out.mono hs1))⟩
  · by_cases h64 : N ≤ 64
    · cases B3
      · obtain rfl : R = false := by rw [HR.out]; simp
        go_enter Try.func5, Try.ntmps5
        have HY1 := Lib.hid (Below.refl w1.heap.size w1)
        go_wp2_with fail
        rw [← HW1.out]
        refine (L0 _).mono ?_
        rintro en wq ⟨rfl, rfl⟩
        go_wp2_with fail
        refine (L0 _).mono ?_
        rintro en wq ⟨rfl, rfl⟩
        go_wp2_with fail
        refine (L0 _).mono ?_
        rintro en wq ⟨rfl, rfl⟩
        go_wp2_with fail
        refine (L0 _).mono ?_
        rintro en wq ⟨rfl, rfl⟩
        go_wp2_with fail
        refine (nameM _).mono ?_
        rintro en wq ⟨rfl, rfl⟩
        go_wp2_with fail
        refine (V0 _ ).mono ?_
        rintro en w2 ⟨rfl, hx2⟩
        have HY2 := Lib.hid (HY1.out.trans (hx2.mono HY1.out.size))
        obtain ⟨e0, e1, e2, e3, e4, e5, e6, e7⟩ := HZ.out w2 HY2.out
        clear hx2
        go_wp2_with fail
        refine (HV.out _ (HB1.out.trans (HY2.out.mono hs1))).mono ?_
        rintro en w3 ⟨rfl, hx3⟩
        have HY3 := Lib.hid (HY2.out.trans (hx3.mono HY2.out.size))
        obtain ⟨e0, e1, e2, e3, e4, e5, e6, e7⟩ := HZ.out w3 HY3.out
        clear hx3
        go_wp2_with fail
        refine (HN.out _ (HB1.out.trans (HY3.out.mono hs1))).mono ?_
        rintro en w4 ⟨rfl, hx4⟩
        have HY4 := Lib.hid (HY3.out.trans (hx4.mono HY3.out.size))
        obtain ⟨e0, e1, e2, e3, e4, e5, e6, e7⟩ := HZ.out w4 HY4.out
        clear hx4
        go_wp2_with fail
        refine (HS.out _ (HB1.out.trans (HY4.out.mono hs1))).mono ?_
        rintro en w5 ⟨rfl, hx5⟩
        have HY5 := Lib.hid (HY4.out.trans (hx5.mono HY4.out.size))
        obtain ⟨e0, e1, e2, e3, e4, e5, e6, e7⟩ := HZ.out w5 HY5.out
        clear hx5
        go_wp2_with fail
        go_ret
        exact ⟨rfl, (HB1.out.trans (HY5.out.mono hs1))⟩
      · obtain rfl : R = true := by rw [HR.out]; simp [h64]
        go_enter Try.func5, Try.ntmps5
        have HY1 := Lib.hid (Below.refl w1.heap.size w1)
        go_wp2_with fail
        rw [← HW1.out]
        refine (L0 _).mono ?_
        rintro en wq ⟨rfl, rfl⟩
        go_wp2_with fail
        refine (L0 _).mono ?_
        rintro en wq ⟨rfl, rfl⟩
        go_wp2_with fail
        refine (L0 _).mono ?_
        rintro en wq ⟨rfl, rfl⟩
        go_wp2_with fail
        refine (L0 _).mono ?_
        rintro en wq ⟨rfl, rfl⟩
        go_wp2_with fail
        refine (nameM _).mono ?_
        rintro en wq ⟨rfl, rfl⟩
        go_wp2_with fail
        refine (V0 _ ).mono ?_
        rintro en w2 ⟨rfl, hx2⟩
        have HY2 := Lib.hid (HY1.out.trans (hx2.mono HY1.out.size))
        obtain ⟨e0, e1, e2, e3, e4, e5, e6, e7⟩ := HZ.out w2 HY2.out
        clear hx2
        go_wp2_with fail
        refine (HV.out _ (HB1.out.trans (HY2.out.mono hs1))).mono ?_
        rintro en w3 ⟨rfl, hx3⟩
        have HY3 := Lib.hid (HY2.out.trans (hx3.mono HY2.out.size))
        obtain ⟨e0, e1, e2, e3, e4, e5, e6, e7⟩ := HZ.out w3 HY3.out
        clear hx3
        go_wp2_with fail
        refine (HN.out _ (HB1.out.trans (HY3.out.mono hs1))).mono ?_
        rintro en w4 ⟨rfl, hx4⟩
        have HY4 := Lib.hid (HY3.out.trans (hx4.mono HY3.out.size))
        obtain ⟨e0, e1, e2, e3, e4, e5, e6, e7⟩ := HZ.out w4 HY4.out
        clear hx4
        go_wp2_with fail
        refine (HS.out _ (HB1.out.trans (HY4.out.mono hs1))).mono ?_
        rintro en w5 ⟨rfl, hx5⟩
        have HY5 := Lib.hid (HY4.out.trans (hx5.mono HY4.out.size))
        obtain ⟨e0, e1, e2, e3, e4, e5, e6, e7⟩ := HZ.out w5 HY5.out
        clear hx5
        go_wp2_with fail
        refine (contains_none_Str _ _).mono ?_
        rintro en wq ⟨rfl, rfl⟩
        go_wp2_with fail
        refine (contains_none_Const _ _).mono ?_
        rintro en wq ⟨rfl, rfl⟩
        go_wp2_with fail
        refine (contains_none_Rec _ _).mono ?_
        rintro en wq ⟨rfl, rfl⟩
        go_wp2_with fail
        refine (contains_none_Proc _ _).mono ?_
        rintro en wq ⟨rfl, rfl⟩
        go_wp2_with fail
        go_ret
        exact ⟨rfl, (HB1.out.trans (HY5.out.mono hs1))⟩
    · have hb : ¬ N ≤ 64 := h64
      obtain rfl : R = false := by rw [HR.out]; simp [h64]
      go_enter Try.func5, Try.ntmps5
      have HY1 := Lib.hid (Below.refl w1.heap.size w1)
      go_wp2_with fail
      rw [← HW1.out]
      refine (L0 _).mono ?_
      rintro en wq ⟨rfl, rfl⟩
      go_wp2_with fail
      refine (L0 _).mono ?_
      rintro en wq ⟨rfl, rfl⟩
      go_wp2_with fail
      refine (L0 _).mono ?_
      rintro en wq ⟨rfl, rfl⟩
      go_wp2_with fail
      refine (L0 _).mono ?_
      rintro en wq ⟨rfl, rfl⟩
      go_wp2_with fail
      refine (nameM _).mono ?_
      rintro en wq ⟨rfl, rfl⟩
      go_wp2_with fail
      refine (V0 _ ).mono ?_
      rintro en w2 ⟨rfl, hx2⟩
      have HY2 := Lib.hid (HY1.out.trans (hx2.mono HY1.out.size))
      obtain ⟨e0, e1, e2, e3, e4, e5, e6, e7⟩ := HZ.out w2 HY2.out
      clear hx2
      go_wp2_with fail
      refine (HV.out _ (HB1.out.trans (HY2.out.mono hs1))).mono ?_
      rintro en w3 ⟨rfl, hx3⟩
      have HY3 := Lib.hid (HY2.out.trans (hx3.mono HY2.out.size))
      obtain ⟨e0, e1, e2, e3, e4, e5, e6, e7⟩ := HZ.out w3 HY3.out
      clear hx3
      go_wp2_with fail
      refine (HN.out _ (HB1.out.trans (HY3.out.mono hs1))).mono ?_
      rintro en w4 ⟨rfl, hx4⟩
      have HY4 := Lib.hid (HY3.out.trans (hx4.mono HY3.out.size))
      obtain ⟨e0, e1, e2, e3, e4, e5, e6, e7⟩ := HZ.out w4 HY4.out
      clear hx4
      go_wp2_with fail
      go_ret
      exact ⟨rfl, (HB1.out.trans (HY4.out.mono hs1))⟩
set_option maxHeartbeats 6400000 in
theorem small_ref (w : World) (va : Option Addr) (nv vc : Nat) (x : Nat → Vr) (ba : Option Addr) (nb bc : Nat) (f : Nat → St) (h1 : nv ≤ vc) (h2 : vc ≤ 9223372036854775807) (h3 : nb ≤ bc) (h4 : bc ≤ 9223372036854775807) (hv : VrsAt w va nv x) (hb : StsAt w ba nb f) (hd : DepsOk nb f) (hn : nestS nb f ≤ 100000) :
    Calls Try.prog 6 #[modV va nv vc ba nb bc] w fun en w' => en = .returned (.bool (smMod nv x nb f)) ∧ Below w.heap.size w w' := by
  unfold modV
  have HV := Lib.hid (fun W (hbw : Below w.heap.size w W) => smallVars_ref W va nv vc x h1 h2 (hv.below hbw (Nat.le_refl _)))
  have HN := Lib.hid (fun W (hbw : Below w.heap.size w W) => nest_ref 100001 (by omega) nb f (by omega) W ba bc h3 h4 (hb.below hbw (Nat.le_refl _)))
  have HS := Lib.hid (fun W (hbw : Below w.heap.size w W) => smallBody_ref 100001 (by omega) nb f (by omega) W ba bc h3 h4 (hb.below hbw (Nat.le_refl _)) hd)
  have HR := Lib.hid (show smMod nv x nb f = (smVars nv x && decide (nestS nb f ≤ 64) && smSts nb f) from rfl)
  obtain ⟨B1, hB1⟩ : ∃ b, b = smVars nv x := ⟨_, rfl⟩
  obtain ⟨N, hN⟩ : ∃ b, b = nestS nb f := ⟨_, rfl⟩
  obtain ⟨B3, hB3⟩ : ∃ b, b = smSts nb f := ⟨_, rfl⟩
  obtain ⟨R, hR⟩ : ∃ b, b = smMod nv x nb f := ⟨_, rfl⟩
  rw [← hR, ← hB1, ← hN, ← hB3] at HR
  rw [← hR]
  simp only [← hB1] at HV
  simp only [← hN] at HN
  simp only [← hB3] at HS
  rw [← hN] at hn
  obtain ⟨w1, hw1⟩ : ∃ w1 : World, w1 = w.alloc (.cells #[.string { data := #[77] }, .slice none 0 0, .slice none 0 0, .slice none 0 0, .slice none 0 0, .slice va nv vc, .slice none 0 0, .slice ba nb bc] 30) := ⟨_, rfl⟩
  have HB1 := Lib.hid (show Below w.heap.size w w1 from by rw [hw1]; exact (Below.refl _ _).alloc (Nat.le_refl _) _)
  have HZ := Lib.hid (show ∀ W, Below w1.heap.size w1 W → W.cell? ⟨w.heap.size, 0, none⟩ = some (.string { data := #[77] }) ∧ W.cell? ⟨w.heap.size, 1, none⟩ = some (.slice none 0 0) ∧ W.cell? ⟨w.heap.size, 2, none⟩ = some (.slice none 0 0) ∧ W.cell? ⟨w.heap.size, 3, none⟩ = some (.slice none 0 0) ∧ W.cell? ⟨w.heap.size, 4, none⟩ = some (.slice none 0 0) ∧ W.cell? ⟨w.heap.size, 5, none⟩ = some (.slice va nv vc) ∧ W.cell? ⟨w.heap.size, 6, none⟩ = some (.slice none 0 0) ∧ W.cell? ⟨w.heap.size, 7, none⟩ = some (.slice ba nb bc) from fun W hbw => by
    have hz : w1.heap[w.heap.size]? = some (.cells #[.string { data := #[77] }, .slice none 0 0, .slice none 0 0, .slice none 0 0, .slice none 0 0, .slice va nv vc, .slice none 0 0, .slice ba nb bc] 30 (0, 0)) := by rw [hw1]; exact heap_alloc_new w _
    exact ⟨cell_below hbw (Nat.le_refl _) (rowC hz 0 _), cell_below hbw (Nat.le_refl _) (rowC hz 1 _), cell_below hbw (Nat.le_refl _) (rowC hz 2 _), cell_below hbw (Nat.le_refl _) (rowC hz 3 _), cell_below hbw (Nat.le_refl _) (rowC hz 4 _), cell_below hbw (Nat.le_refl _) (rowC hz 5 _), cell_below hbw (Nat.le_refl _) (rowC hz 6 _), cell_below hbw (Nat.le_refl _) (rowC hz 7 _)⟩)
  have HW1 := Lib.hid hw1
  have hs1 : w.heap.size ≤ w1.heap.size := HB1.out.size
  obtain ⟨c0, c1, c2, c3, c4, c5, c6, c7⟩ := HZ.out w1 (Below.refl _ _)
  have L0 := few0
  have V0 := vars0_ref
  clear hB1 hN hB3 hR hv hb hd hw1
  cases B1
  · obtain rfl : R = false := by rw [HR.out]; simp
    go_enter Try.func6, Try.ntmps6
    have HY1 := Lib.hid (Below.refl w1.heap.size w1)
    go_wp2_with fail
    rw [← HW1.out]
    refine (L0 _).mono ?_
    rintro en wq ⟨rfl, rfl⟩
    go_wp2_with fail
    refine (L0 _).mono ?_
    rintro en wq ⟨rfl, rfl⟩
    go_wp2_with fail
    refine (V0 _ ).mono ?_
    rintro en w2 ⟨rfl, hx2⟩
    have HY2 := Lib.hid (HY1.out.trans (hx2.mono HY1.out.size))
    obtain ⟨e0, e1, e2, e3, e4, e5, e6, e7⟩ := HZ.out w2 HY2.out
    clear hx2
    go_wp2_with fail
    refine (L0 _).mono ?_
    rintro en wq ⟨rfl, rfl⟩
    go_wp2_with fail
    refine (HV.out _ (HB1.out.trans (HY2.out.mono hs1))).mono ?_
    rintro en w3 ⟨rfl, hx3⟩
    have HY3 := Lib.hid (HY2.out.trans (hx3.mono HY2.out.size))
    obtain ⟨e0, e1, e2, e3, e4, e5, e6, e7⟩ := HZ.out w3 HY3.out
    clear hx3
    go_wp2_with fail
    go_ret
    exact ⟨rfl, (HB1.out.trans (HY3.out.mono hs1))⟩
  · by_cases h64 : N ≤ 64
    · cases B3
      · obtain rfl : R = false := by rw [HR.out]; simp
        go_enter Try.func6, Try.ntmps6
        have HY1 := Lib.hid (Below.refl w1.heap.size w1)
        go_wp2_with fail
        rw [← HW1.out]
        refine (L0 _).mono ?_
        rintro en wq ⟨rfl, rfl⟩
        go_wp2_with fail
        refine (L0 _).mono ?_
        rintro en wq ⟨rfl, rfl⟩
        go_wp2_with fail
        refine (V0 _ ).mono ?_
        rintro en w2 ⟨rfl, hx2⟩
        have HY2 := Lib.hid (HY1.out.trans (hx2.mono HY1.out.size))
        obtain ⟨e0, e1, e2, e3, e4, e5, e6, e7⟩ := HZ.out w2 HY2.out
        clear hx2
        go_wp2_with fail
        refine (L0 _).mono ?_
        rintro en wq ⟨rfl, rfl⟩
        go_wp2_with fail
        refine (HV.out _ (HB1.out.trans (HY2.out.mono hs1))).mono ?_
        rintro en w3 ⟨rfl, hx3⟩
        have HY3 := Lib.hid (HY2.out.trans (hx3.mono HY2.out.size))
        obtain ⟨e0, e1, e2, e3, e4, e5, e6, e7⟩ := HZ.out w3 HY3.out
        clear hx3
        go_wp2_with fail
        refine (L0 _).mono ?_
        rintro en wq ⟨rfl, rfl⟩
        go_wp2_with fail
        refine (HN.out _ (HB1.out.trans (HY3.out.mono hs1))).mono ?_
        rintro en w4 ⟨rfl, hx4⟩
        have HY4 := Lib.hid (HY3.out.trans (hx4.mono HY3.out.size))
        obtain ⟨e0, e1, e2, e3, e4, e5, e6, e7⟩ := HZ.out w4 HY4.out
        clear hx4
        go_wp2_with fail
        refine (HS.out _ (HB1.out.trans (HY4.out.mono hs1))).mono ?_
        rintro en w5 ⟨rfl, hx5⟩
        have HY5 := Lib.hid (HY4.out.trans (hx5.mono HY4.out.size))
        obtain ⟨e0, e1, e2, e3, e4, e5, e6, e7⟩ := HZ.out w5 HY5.out
        clear hx5
        go_wp2_with fail
        go_ret
        exact ⟨rfl, (HB1.out.trans (HY5.out.mono hs1))⟩
      · obtain rfl : R = true := by rw [HR.out]; simp [h64]
        go_enter Try.func6, Try.ntmps6
        have HY1 := Lib.hid (Below.refl w1.heap.size w1)
        go_wp2_with fail
        rw [← HW1.out]
        refine (L0 _).mono ?_
        rintro en wq ⟨rfl, rfl⟩
        go_wp2_with fail
        refine (L0 _).mono ?_
        rintro en wq ⟨rfl, rfl⟩
        go_wp2_with fail
        refine (V0 _ ).mono ?_
        rintro en w2 ⟨rfl, hx2⟩
        have HY2 := Lib.hid (HY1.out.trans (hx2.mono HY1.out.size))
        obtain ⟨e0, e1, e2, e3, e4, e5, e6, e7⟩ := HZ.out w2 HY2.out
        clear hx2
        go_wp2_with fail
        refine (L0 _).mono ?_
        rintro en wq ⟨rfl, rfl⟩
        go_wp2_with fail
        refine (HV.out _ (HB1.out.trans (HY2.out.mono hs1))).mono ?_
        rintro en w3 ⟨rfl, hx3⟩
        have HY3 := Lib.hid (HY2.out.trans (hx3.mono HY2.out.size))
        obtain ⟨e0, e1, e2, e3, e4, e5, e6, e7⟩ := HZ.out w3 HY3.out
        clear hx3
        go_wp2_with fail
        refine (L0 _).mono ?_
        rintro en wq ⟨rfl, rfl⟩
        go_wp2_with fail
        refine (HN.out _ (HB1.out.trans (HY3.out.mono hs1))).mono ?_
        rintro en w4 ⟨rfl, hx4⟩
        have HY4 := Lib.hid (HY3.out.trans (hx4.mono HY3.out.size))
        obtain ⟨e0, e1, e2, e3, e4, e5, e6, e7⟩ := HZ.out w4 HY4.out
        clear hx4
        go_wp2_with fail
        refine (HS.out _ (HB1.out.trans (HY4.out.mono hs1))).mono ?_
        rintro en w5 ⟨rfl, hx5⟩
        have HY5 := Lib.hid (HY4.out.trans (hx5.mono HY4.out.size))
        obtain ⟨e0, e1, e2, e3, e4, e5, e6, e7⟩ := HZ.out w5 HY5.out
        clear hx5
        go_wp2_with fail
        go_loop [3] (fun z => z = .int .i64 0) (fun z => 0)
        case atStart => rfl
        case round =>
        obtain rfl := hrel
        go_wp2_with fail
        go_loop [4] (fun z => z = .int .i64 0) (fun z => 0)
        case atStart => rfl
        case round =>
        obtain rfl := hrel
        go_wp2_with fail
        go_loop [5] (fun z => z = .int .i64 0) (fun z => 0)
        case atStart => rfl
        case round =>
        obtain rfl := hrel
        go_wp2_with fail
        go_loop [6] (fun z => z = .int .i64 0) (fun z => 0)
        case atStart => rfl
        case round =>
        obtain rfl := hrel
        go_wp2_with fail
        go_ret
        exact ⟨rfl, (HB1.out.trans (HY5.out.mono hs1))⟩
    · have hb : ¬ N ≤ 64 := h64
      obtain rfl : R = false := by rw [HR.out]; simp [h64]
      go_enter Try.func6, Try.ntmps6
      have HY1 := Lib.hid (Below.refl w1.heap.size w1)
      go_wp2_with fail
      rw [← HW1.out]
      refine (L0 _).mono ?_
      rintro en wq ⟨rfl, rfl⟩
      go_wp2_with fail
      refine (L0 _).mono ?_
      rintro en wq ⟨rfl, rfl⟩
      go_wp2_with fail
      refine (V0 _ ).mono ?_
      rintro en w2 ⟨rfl, hx2⟩
      have HY2 := Lib.hid (HY1.out.trans (hx2.mono HY1.out.size))
      obtain ⟨e0, e1, e2, e3, e4, e5, e6, e7⟩ := HZ.out w2 HY2.out
      clear hx2
      go_wp2_with fail
      refine (L0 _).mono ?_
      rintro en wq ⟨rfl, rfl⟩
      go_wp2_with fail
      refine (HV.out _ (HB1.out.trans (HY2.out.mono hs1))).mono ?_
      rintro en w3 ⟨rfl, hx3⟩
      have HY3 := Lib.hid (HY2.out.trans (hx3.mono HY2.out.size))
      obtain ⟨e0, e1, e2, e3, e4, e5, e6, e7⟩ := HZ.out w3 HY3.out
      clear hx3
      go_wp2_with fail
      refine (L0 _).mono ?_
      rintro en wq ⟨rfl, rfl⟩
      go_wp2_with fail
      refine (HN.out _ (HB1.out.trans (HY3.out.mono hs1))).mono ?_
      rintro en w4 ⟨rfl, hx4⟩
      have HY4 := Lib.hid (HY3.out.trans (hx4.mono HY3.out.size))
      obtain ⟨e0, e1, e2, e3, e4, e5, e6, e7⟩ := HZ.out w4 HY4.out
      clear hx4
      go_wp2_with fail
      go_ret
      exact ⟨rfl, (HB1.out.trans (HY4.out.mono hs1))⟩
end Go.Proofs.Ytipcnkgojonmjaa
