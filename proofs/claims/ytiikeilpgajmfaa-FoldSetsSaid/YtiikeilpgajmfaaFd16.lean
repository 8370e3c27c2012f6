/- Fold: FoldReckons. (Printed by gen_fd16.py.) -/
import Derived.Test.YtiikeilpgajmfaaFd15
namespace Go.Proofs.Ytiikeilpgajmfaa
open Go.RowKit Go.Waf
set_option maxRecDepth 100000
set_option linter.unusedVariables false
set_option linter.unusedSimpArgs false

/-- An operator of up to three constants. -/
def opE (op f a b : Int) (k : Nat) : Ex := .mk op (tyF f) 0 ByteArray.empty k (fun j => if j = 1 then numE f b else numE f a)
theorem opE_fit (op f a b : Int) (k : Nat) (ha : -2147483648 ≤ a ∧ a ≤ 2147483647) (hb : -2147483648 ≤ b ∧ b ≤ 2147483647) : Fit (opE op f a b k) := ⟨⟨by decide, by decide⟩, fun j hj => by
  show Fit (if j = 1 then numE f b else numE f a)
  split
  · exact ⟨hb, fun i hi => absurd hi (by omega)⟩
  · exact ⟨ha, fun i hi => absurd hi (by omega)⟩⟩
def nArr (f v : Int) : Array Value := #[.int .i64 0, .int .i64 f, .int .i64 0, .string ByteArray.empty, .slice none 0 0, .int .i32 v, .string ByteArray.empty, .slice none 0 0]
theorem num_cells {W : World} {b o : Nat} {f v : Int} (h : ∀ j, j < 8 → W.cell? ⟨b, o + j, none⟩ = (nArr f v)[j]?) : ExCells W b o (numE f v) (.slice none 0 0) (.slice none 0 0) :=
  ⟨h 0 (by decide), h 1 (by decide), h 2 (by decide), h 3 (by decide), h 4 (by decide), h 5 (by decide), h 6 (by decide), h 7 (by decide)⟩
theorem opE_ok1 (w : World) (op f a b : Int) : ExOk (w.alloc (.cells #[.int .i64 0, .int .i64 f, .int .i64 0, .string ByteArray.empty, .slice none 0 0, .int .i32 a, .string ByteArray.empty, .slice none 0 0] 27)) (opE op f a b 1) (.slice none 0 0) (.slice (some ⟨w.heap.size, 0, none⟩) 1 1) := by
  refine ⟨TyOk.leaf _ f, _, _, rfl, Nat.le_refl _, by decide, fun _ => ⟨_, 0, rfl, fun j hj => ?_⟩⟩
  obtain rfl : j = 0 := by omega
  exact ⟨_, _, ExOk.num _ f a, num_cells fun i hi => by
    rw [World.cell?_alloc_new]
    match i, hi with
    | 0, _ => rfl | 1, _ => rfl | 2, _ => rfl | 3, _ => rfl | 4, _ => rfl | 5, _ => rfl | 6, _ => rfl | 7, _ => rfl⟩
theorem opE_ok2 (w : World) (op f a b : Int) : ExOk (w.alloc (.cells #[.int .i64 0, .int .i64 f, .int .i64 0, .string ByteArray.empty, .slice none 0 0, .int .i32 a, .string ByteArray.empty, .slice none 0 0, .int .i64 0, .int .i64 f, .int .i64 0, .string ByteArray.empty, .slice none 0 0, .int .i32 b, .string ByteArray.empty, .slice none 0 0] 27)) (opE op f a b 2) (.slice none 0 0) (.slice (some ⟨w.heap.size, 0, none⟩) 2 2) := by
  refine ⟨TyOk.leaf _ f, _, _, rfl, Nat.le_refl _, by decide, fun _ => ⟨_, 0, rfl, fun j hj => ?_⟩⟩
  rcases (by omega : j = 0 ∨ j = 1) with rfl | rfl
  · exact ⟨_, _, ExOk.num _ f a, num_cells fun i hi => by
      rw [World.cell?_alloc_new]
      match i, hi with
      | 0, _ => rfl | 1, _ => rfl | 2, _ => rfl | 3, _ => rfl | 4, _ => rfl | 5, _ => rfl | 6, _ => rfl | 7, _ => rfl⟩
  · exact ⟨_, _, ExOk.num _ f b, num_cells fun i hi => by
      rw [World.cell?_alloc_new]
      match i, hi with
      | 0, _ => rfl | 1, _ => rfl | 2, _ => rfl | 3, _ => rfl | 4, _ => rfl | 5, _ => rfl | 6, _ => rfl | 7, _ => rfl⟩
theorem opE_ok3 (w : World) (op f a b : Int) : ExOk (w.alloc (.cells #[.int .i64 0, .int .i64 f, .int .i64 0, .string ByteArray.empty, .slice none 0 0, .int .i32 a, .string ByteArray.empty, .slice none 0 0, .int .i64 0, .int .i64 f, .int .i64 0, .string ByteArray.empty, .slice none 0 0, .int .i32 b, .string ByteArray.empty, .slice none 0 0, .int .i64 0, .int .i64 f, .int .i64 0, .string ByteArray.empty, .slice none 0 0, .int .i32 a, .string ByteArray.empty, .slice none 0 0] 27)) (opE op f a b 3) (.slice none 0 0) (.slice (some ⟨w.heap.size, 0, none⟩) 3 3) := by
  refine ⟨TyOk.leaf _ f, _, _, rfl, Nat.le_refl _, by decide, fun _ => ⟨_, 0, rfl, fun j hj => ?_⟩⟩
  rcases (by omega : j = 0 ∨ j = 1 ∨ j = 2) with rfl | rfl | rfl
  · exact ⟨_, _, ExOk.num _ f a, num_cells fun i hi => by
      rw [World.cell?_alloc_new]
      match i, hi with
      | 0, _ => rfl | 1, _ => rfl | 2, _ => rfl | 3, _ => rfl | 4, _ => rfl | 5, _ => rfl | 6, _ => rfl | 7, _ => rfl⟩
  · exact ⟨_, _, ExOk.num _ f b, num_cells fun i hi => by
      rw [World.cell?_alloc_new]
      match i, hi with
      | 0, _ => rfl | 1, _ => rfl | 2, _ => rfl | 3, _ => rfl | 4, _ => rfl | 5, _ => rfl | 6, _ => rfl | 7, _ => rfl⟩
  · exact ⟨_, _, ExOk.num _ f a, num_cells fun i hi => by
      rw [World.cell?_alloc_new]
      match i, hi with
      | 0, _ => rfl | 1, _ => rfl | 2, _ => rfl | 3, _ => rfl | 4, _ => rfl | 5, _ => rfl | 6, _ => rfl | 7, _ => rfl⟩
/-- The law's three questions about an operator. -/
theorem told_op (w : World) (op f a b : Int) (k : Nat) (hk : k = 1 ∨ k = 2 ∨ k = 3) (ha : -2147483648 ≤ a ∧ a ≤ 2147483647) (hb : -2147483648 ≤ b ∧ b ≤ 2147483647) (hok : ExOk w (opE op f a b k) (.slice none 0 0) (.slice (some ⟨w.heap.size - 1, 0, none⟩) k k)) :
    Calls Try.prog 8 #[.agg #[.int .i64 op, .int .i64 f, .int .i64 0, .string ByteArray.empty, .slice none 0 0, .int .i32 0, .string ByteArray.empty, .slice (some ⟨w.heap.size - 1, 0, none⟩) k k]] w fun en w' => en = .returned (.bool true) ∧ Below w.heap.size w w' :=
  told_any w (opE op f a b k) _ _ hok (opE_fit op f a b k ha hb)

set_option maxHeartbeats 6400000 in
theorem foldReckons_any (a0 a1 a2 a3 : Int) (w : World) (w0 : (Lit.int .i32 a0).wf = true) (w1' : (Lit.int .i32 a1).wf = true) (w2' : (Lit.int .u8 a2).wf = true) (w3' : (Lit.int .u8 a3).wf = true) :
    Calls Try.prog 4 #[.int .i32 a0, .int .i32 a1, .int .u8 a2, .int .u8 a3] w fun e w' => e = .returned (.bool true) ∧ Below w.heap.size w w' := by
  have r0 := rng_i32 w0
  have r1 := rng_i32 w1'
  have r2 := rng_u8 w2'
  have r3 := rng_u8 w3'
  have R0 := Lib.hid r0
  have R1 := Lib.hid r1
  clear w0 w1' w2' w3'
  go_enter Try.func4, Try.ntmps4
  go_wp2_with fail
  refine (known_prog w).mono ?_
  rintro en wk ⟨rfl, hbk⟩
  have HBK := Lib.hid hbk
  clear hbk
  go_wp2_with fail
  go_loopw [9] (fun z wr => ∃ o : Nat, 7 ≤ o ∧ o ≤ 35 ∧ z = .int .i64 (o : Int) ∧ Below wk.heap.size wk wr) (fun z _ => 35 - (intOf z).toNat)
  case atStart => exact ⟨7, by omega, by omega, rfl, Below.refl _ _⟩
  case round =>
    obtain ⟨o, ho1, ho2, rfl, hb⟩ := hrel
    obtain ⟨wo, rfl⟩ : ∃ wo : World, wo = wr := ⟨_, rfl⟩
    by_cases hlo : o ≤ 34
    · have HB := Lib.hid hb
      have hlo2 : (o : Int) ≤ 34 := by omega
      have hmod : 0 ≤ a2 % 12 := by omega
      clear hb
      go_wp2_with fail
      obtain ⟨wf, hwf⟩ : ∃ wf : World, wf = wo.alloc (.cells #[.int .i64 1, .int .i64 4, .int .i64 3, .int .i64 2, .int .i64 (a2 % 12)] 3) := ⟨_, rfl⟩
      rw [← hwf]
      have HFO := Lib.hid (show ∀ j, j < 5 → ∃ F : Int, wf.cell? ⟨wo.heap.size, j, none⟩ = some (.int .i64 F) from fun j hj => by
        rw [hwf, World.cell?_alloc_new]
        match j, hj with
        | 0, _ => exact ⟨_, rfl⟩
        | 1, _ => exact ⟨_, rfl⟩
        | 2, _ => exact ⟨_, rfl⟩
        | 3, _ => exact ⟨_, rfl⟩
        | 4, _ => exact ⟨_, rfl⟩)
      have hbf : Below wk.heap.size wk wf := by rw [hwf]; exact HB.out.alloc HB.out.size _
      have HBF := Lib.hid hbf
      clear hwf hbf
      go_loopw [26] (fun z wr => ∃ j : Nat, j ≤ 5 ∧ z = .int .i64 (j : Int) ∧ Below wf.heap.size wf wr) (fun z _ => 5 - (intOf z).toNat)
      case atStart => exact ⟨0, by omega, rfl, Below.refl _ _⟩
      case round =>
        obtain ⟨j, hj, rfl, hbz⟩ := hrel
        obtain ⟨wz, rfl⟩ : ∃ wz : World, wz = wr := ⟨_, rfl⟩
        by_cases hlj : j < 5
        · obtain ⟨F, hF⟩ := HFO.out j hlj
          have cF := cell_below hbz (Nat.le_refl _) hF
          have jj : (j : Int) < 5 := by omega
          have HBZ := Lib.hid hbz
          clear hF hbz
          go_wp2_with fail
          refine (num_prog wz F a0).mono ?_
          rintro en w1 ⟨he, hb1⟩
          obtain rfl : en = .returned (.agg #[.int .i64 0, .int .i64 F, .int .i64 0, .string ByteArray.empty, .slice none 0 0, .int .i32 a0, .string ByteArray.empty, .slice none 0 0]) := he
          go_wp2_with fail
          refine (num_prog w1 F a1).mono ?_
          rintro en w2 ⟨he, hb2⟩
          obtain rfl : en = .returned (.agg #[.int .i64 0, .int .i64 F, .int .i64 0, .string ByteArray.empty, .slice none 0 0, .int .i32 a1, .string ByteArray.empty, .slice none 0 0]) := he
          have HB2 := Lib.hid (HBZ.out.trans ((hb1.trans (hb2.mono hb1.size)).mono HBZ.out.size))
          clear hb1 hb2 cF
          go_upto_if 38 with fail
          go_cut [] (fun wx => ∃ b : Int, (-2147483648 ≤ b ∧ b ≤ 2147483647) ∧ wx = (w2.alloc (.cells #[.int .i64 0, .int .i64 F, .int .i64 0, .string ByteArray.empty, .slice none 0 0, .int .i32 a0, .string ByteArray.empty, .slice none 0 0] 27)).alloc (.cells #[.int .i64 0, .int .i64 F, .int .i64 0, .string ByteArray.empty, .slice none 0 0, .int .i32 b, .string ByteArray.empty, .slice none 0 0] 27))
          case first =>
            by_cases h3 : 0 < a3 % 3
            · go_wp2_with fail
              go_meet
              case rel => exact ⟨_, by rw [and_i32]; exact toInt_i32 _, rfl⟩
            · go_wp2_with fail
              go_meet
              case rel => exact ⟨a1, R1.out, rfl⟩
          case rest =>
          obtain ⟨b, hb0, hwc⟩ := hcut
          obtain ⟨w3, hw3⟩ : ∃ w3 : World, w3 = wc := ⟨_, rfl⟩
          rw [← hw3] at hwc ⊢
          clear hw3
          have R2 := Lib.hid hb0
          have hs3 : w3.heap.size = w2.heap.size + 2 := by rw [hwc]; simp
          have HX0 := Lib.hid (show w3.heap[w2.heap.size]? = some (.cells #[.int .i64 0, .int .i64 F, .int .i64 0, .string ByteArray.empty, .slice none 0 0, .int .i32 a0, .string ByteArray.empty, .slice none 0 0] 27 (0, 0)) from by rw [hwc]; exact heap_alloc2_old w2 _ _)
          have HY0 := Lib.hid (show w3.heap[w2.heap.size + 1]? = some (.cells #[.int .i64 0, .int .i64 F, .int .i64 0, .string ByteArray.empty, .slice none 0 0, .int .i32 b, .string ByteArray.empty, .slice none 0 0] 27 (0, 0)) from by rw [hwc]; exact heap_alloc2_new w2 _ _)
          have hb3 : Below wf.heap.size wf w3 := by rw [hwc]; exact (HB2.out.alloc HB2.out.size _).alloc (by have := HB2.out.size; simp; omega) _
          have HB3 := Lib.hid hb3
          have HS3 := Lib.hid hs3
          clear hwc hb0 hb3 hs3
          go_wp2_with fail
          refine (basic_ref w3 F).mono ?_
          rintro en w4 ⟨he, hb4⟩
          obtain rfl : en = .returned (.agg #[.int .i64 F, .int .i64 0, .string ByteArray.empty, .slice none 0 0]) := he
          obtain ⟨w5, hw5⟩ : ∃ w5 : World, w5 = w4.alloc (.cells #[.int .i64 F, .int .i64 0, .string ByteArray.empty, .slice none 0 0] 24) := ⟨_, rfl⟩
          have hs3 : w2.heap.size + 2 ≤ w3.heap.size := by rw [HS3.out]; exact Nat.le_refl _
          have hz4 := hb4.size
          have hs5 : w4.heap.size + 1 ≤ w5.heap.size := by rw [hw5]; simp
          have HT := Lib.hid (show w5.heap[w4.heap.size]? = some (.cells #[.int .i64 F, .int .i64 0, .string ByteArray.empty, .slice none 0 0] 24 (0, 0)) from by rw [hw5]; exact heap_alloc_new w4 _)
          have HX := Lib.hid (show w5.heap[w2.heap.size]? = some (.cells #[.int .i64 0, .int .i64 F, .int .i64 0, .string ByteArray.empty, .slice none 0 0, .int .i32 a0, .string ByteArray.empty, .slice none 0 0] 27 (0, 0)) from by rw [hw5]; exact blk_alloc (by rw [hb4.block _ (by omega)]; exact HX0.out) _)
          have HY := Lib.hid (show w5.heap[w2.heap.size + 1]? = some (.cells #[.int .i64 0, .int .i64 F, .int .i64 0, .string ByteArray.empty, .slice none 0 0, .int .i32 b, .string ByteArray.empty, .slice none 0 0] 27 (0, 0)) from by rw [hw5]; exact blk_alloc (by rw [hb4.block _ (by omega)]; exact HY0.out) _)
          have hb35 : Below wf.heap.size wf w5 := by rw [hw5]; have h := HB3.out.trans (hb4.mono HB3.out.size); exact h.alloc h.size _
          have HB5 := Lib.hid hb35
          have HW5 := Lib.hid hw5
          clear hb4 hb35 hw5
          go_upto_region 13 with fail
          rw [← HW5.out]
          have hbw5 : Below w5.heap.size w5 w5 := Below.refl _ _
          have hXw5 := HX.out
          rw [← hbw5.block _ (by omega)] at hXw5
          have hYw5 := HY.out
          rw [← hbw5.block _ (by omega)] at hYw5
          have hTw5 := HT.out
          rw [← hbw5.block _ (by omega)] at hTw5
          have x0 : w5.cell? ⟨w2.heap.size, 0, none⟩ = some (.int .i64 0) := row8 hXw5 0 _ rfl
          have x1 : w5.cell? ⟨w2.heap.size, 1, none⟩ = some (.int .i64 F) := row8 hXw5 1 _ rfl
          have x2 : w5.cell? ⟨w2.heap.size, 2, none⟩ = some (.int .i64 0) := row8 hXw5 2 _ rfl
          have x3 : w5.cell? ⟨w2.heap.size, 3, none⟩ = some (.string ByteArray.empty) := row8 hXw5 3 _ rfl
          have x4 : w5.cell? ⟨w2.heap.size, 4, none⟩ = some (.slice none 0 0) := row8 hXw5 4 _ rfl
          have x5 : w5.cell? ⟨w2.heap.size, 5, none⟩ = some (.int .i32 a0) := row8 hXw5 5 _ rfl
          have x6 : w5.cell? ⟨w2.heap.size, 6, none⟩ = some (.string ByteArray.empty) := row8 hXw5 6 _ rfl
          have x7 : w5.cell? ⟨w2.heap.size, 7, none⟩ = some (.slice none 0 0) := row8 hXw5 7 _ rfl
          have y0 : w5.cell? ⟨w2.heap.size + 1, 0, none⟩ = some (.int .i64 0) := row8 hYw5 0 _ rfl
          have y1 : w5.cell? ⟨w2.heap.size + 1, 1, none⟩ = some (.int .i64 F) := row8 hYw5 1 _ rfl
          have y2 : w5.cell? ⟨w2.heap.size + 1, 2, none⟩ = some (.int .i64 0) := row8 hYw5 2 _ rfl
          have y3 : w5.cell? ⟨w2.heap.size + 1, 3, none⟩ = some (.string ByteArray.empty) := row8 hYw5 3 _ rfl
          have y4 : w5.cell? ⟨w2.heap.size + 1, 4, none⟩ = some (.slice none 0 0) := row8 hYw5 4 _ rfl
          have y5 : w5.cell? ⟨w2.heap.size + 1, 5, none⟩ = some (.int .i32 b) := row8 hYw5 5 _ rfl
          have y6 : w5.cell? ⟨w2.heap.size + 1, 6, none⟩ = some (.string ByteArray.empty) := row8 hYw5 6 _ rfl
          have y7 : w5.cell? ⟨w2.heap.size + 1, 7, none⟩ = some (.slice none 0 0) := row8 hYw5 7 _ rfl
          have t0 : w5.cell? ⟨w4.heap.size, 0, none⟩ = some (.int .i64 F) := row8 hTw5 0 _ rfl
          have t1 : w5.cell? ⟨w4.heap.size, 1, none⟩ = some (.int .i64 0) := row8 hTw5 1 _ rfl
          have t2 : w5.cell? ⟨w4.heap.size, 2, none⟩ = some (.string ByteArray.empty) := row8 hTw5 2 _ rfl
          have t3 : w5.cell? ⟨w4.heap.size, 3, none⟩ = some (.slice none 0 0) := row8 hTw5 3 _ rfl
          have hzw5 := hbw5.size
          have HBw5 := Lib.hid hbw5
          clear hXw5 hYw5 hTw5 hbw5
          go_wp2_with fail
          refine (told_any _ (opE o F a0 b 1) (.slice none 0 0) (.slice (some ⟨w5.heap.size, 0, none⟩) 1 1) (opE_ok1 w5 _ F a0 b) (opE_fit _ F a0 b 1 R0.out R2.out)).mono ?_
          rintro en w6 ⟨rfl, hbn⟩
          have hbw6 : Below w5.heap.size w5 w6 := ((Below.refl _ w5).alloc (Nat.le_refl _) _).trans (hbn.mono (by simp))
          clear hbn
          clear x0 y0 x1 y1 x2 y2 x3 y3 x4 y4 x5 y5 x6 y6 x7 y7 t0 t1 t2 t3
          have hXw6 := HX.out
          rw [← hbw6.block _ (by omega)] at hXw6
          have hYw6 := HY.out
          rw [← hbw6.block _ (by omega)] at hYw6
          have hTw6 := HT.out
          rw [← hbw6.block _ (by omega)] at hTw6
          have x0 : w6.cell? ⟨w2.heap.size, 0, none⟩ = some (.int .i64 0) := row8 hXw6 0 _ rfl
          have x1 : w6.cell? ⟨w2.heap.size, 1, none⟩ = some (.int .i64 F) := row8 hXw6 1 _ rfl
          have x2 : w6.cell? ⟨w2.heap.size, 2, none⟩ = some (.int .i64 0) := row8 hXw6 2 _ rfl
          have x3 : w6.cell? ⟨w2.heap.size, 3, none⟩ = some (.string ByteArray.empty) := row8 hXw6 3 _ rfl
          have x4 : w6.cell? ⟨w2.heap.size, 4, none⟩ = some (.slice none 0 0) := row8 hXw6 4 _ rfl
          have x5 : w6.cell? ⟨w2.heap.size, 5, none⟩ = some (.int .i32 a0) := row8 hXw6 5 _ rfl
          have x6 : w6.cell? ⟨w2.heap.size, 6, none⟩ = some (.string ByteArray.empty) := row8 hXw6 6 _ rfl
          have x7 : w6.cell? ⟨w2.heap.size, 7, none⟩ = some (.slice none 0 0) := row8 hXw6 7 _ rfl
          have y0 : w6.cell? ⟨w2.heap.size + 1, 0, none⟩ = some (.int .i64 0) := row8 hYw6 0 _ rfl
          have y1 : w6.cell? ⟨w2.heap.size + 1, 1, none⟩ = some (.int .i64 F) := row8 hYw6 1 _ rfl
          have y2 : w6.cell? ⟨w2.heap.size + 1, 2, none⟩ = some (.int .i64 0) := row8 hYw6 2 _ rfl
          have y3 : w6.cell? ⟨w2.heap.size + 1, 3, none⟩ = some (.string ByteArray.empty) := row8 hYw6 3 _ rfl
          have y4 : w6.cell? ⟨w2.heap.size + 1, 4, none⟩ = some (.slice none 0 0) := row8 hYw6 4 _ rfl
          have y5 : w6.cell? ⟨w2.heap.size + 1, 5, none⟩ = some (.int .i32 b) := row8 hYw6 5 _ rfl
          have y6 : w6.cell? ⟨w2.heap.size + 1, 6, none⟩ = some (.string ByteArray.empty) := row8 hYw6 6 _ rfl
          have y7 : w6.cell? ⟨w2.heap.size + 1, 7, none⟩ = some (.slice none 0 0) := row8 hYw6 7 _ rfl
          have t0 : w6.cell? ⟨w4.heap.size, 0, none⟩ = some (.int .i64 F) := row8 hTw6 0 _ rfl
          have t1 : w6.cell? ⟨w4.heap.size, 1, none⟩ = some (.int .i64 0) := row8 hTw6 1 _ rfl
          have t2 : w6.cell? ⟨w4.heap.size, 2, none⟩ = some (.string ByteArray.empty) := row8 hTw6 2 _ rfl
          have t3 : w6.cell? ⟨w4.heap.size, 3, none⟩ = some (.slice none 0 0) := row8 hTw6 3 _ rfl
          have hzw6 := hbw6.size
          have HBw6 := Lib.hid hbw6
          clear hXw6 hYw6 hTw6 hbw6
          go_wp2_with fail
          refine (told_any _ (opE o F a0 b 2) (.slice none 0 0) (.slice (some ⟨w6.heap.size, 0, none⟩) 2 2) (opE_ok2 w6 _ F a0 b) (opE_fit _ F a0 b 2 R0.out R2.out)).mono ?_
          rintro en w7 ⟨rfl, hbn⟩
          have hbw7 : Below w5.heap.size w5 w7 := HBw6.out.trans ((((Below.refl _ w6).alloc (Nat.le_refl _) _).trans (hbn.mono (by simp))).mono HBw6.out.size)
          clear hbn
          clear x0 y0 x1 y1 x2 y2 x3 y3 x4 y4 x5 y5 x6 y6 x7 y7 t0 t1 t2 t3
          have hXw7 := HX.out
          rw [← hbw7.block _ (by omega)] at hXw7
          have hYw7 := HY.out
          rw [← hbw7.block _ (by omega)] at hYw7
          have hTw7 := HT.out
          rw [← hbw7.block _ (by omega)] at hTw7
          have x0 : w7.cell? ⟨w2.heap.size, 0, none⟩ = some (.int .i64 0) := row8 hXw7 0 _ rfl
          have x1 : w7.cell? ⟨w2.heap.size, 1, none⟩ = some (.int .i64 F) := row8 hXw7 1 _ rfl
          have x2 : w7.cell? ⟨w2.heap.size, 2, none⟩ = some (.int .i64 0) := row8 hXw7 2 _ rfl
          have x3 : w7.cell? ⟨w2.heap.size, 3, none⟩ = some (.string ByteArray.empty) := row8 hXw7 3 _ rfl
          have x4 : w7.cell? ⟨w2.heap.size, 4, none⟩ = some (.slice none 0 0) := row8 hXw7 4 _ rfl
          have x5 : w7.cell? ⟨w2.heap.size, 5, none⟩ = some (.int .i32 a0) := row8 hXw7 5 _ rfl
          have x6 : w7.cell? ⟨w2.heap.size, 6, none⟩ = some (.string ByteArray.empty) := row8 hXw7 6 _ rfl
          have x7 : w7.cell? ⟨w2.heap.size, 7, none⟩ = some (.slice none 0 0) := row8 hXw7 7 _ rfl
          have y0 : w7.cell? ⟨w2.heap.size + 1, 0, none⟩ = some (.int .i64 0) := row8 hYw7 0 _ rfl
          have y1 : w7.cell? ⟨w2.heap.size + 1, 1, none⟩ = some (.int .i64 F) := row8 hYw7 1 _ rfl
          have y2 : w7.cell? ⟨w2.heap.size + 1, 2, none⟩ = some (.int .i64 0) := row8 hYw7 2 _ rfl
          have y3 : w7.cell? ⟨w2.heap.size + 1, 3, none⟩ = some (.string ByteArray.empty) := row8 hYw7 3 _ rfl
          have y4 : w7.cell? ⟨w2.heap.size + 1, 4, none⟩ = some (.slice none 0 0) := row8 hYw7 4 _ rfl
          have y5 : w7.cell? ⟨w2.heap.size + 1, 5, none⟩ = some (.int .i32 b) := row8 hYw7 5 _ rfl
          have y6 : w7.cell? ⟨w2.heap.size + 1, 6, none⟩ = some (.string ByteArray.empty) := row8 hYw7 6 _ rfl
          have y7 : w7.cell? ⟨w2.heap.size + 1, 7, none⟩ = some (.slice none 0 0) := row8 hYw7 7 _ rfl
          have t0 : w7.cell? ⟨w4.heap.size, 0, none⟩ = some (.int .i64 F) := row8 hTw7 0 _ rfl
          have t1 : w7.cell? ⟨w4.heap.size, 1, none⟩ = some (.int .i64 0) := row8 hTw7 1 _ rfl
          have t2 : w7.cell? ⟨w4.heap.size, 2, none⟩ = some (.string ByteArray.empty) := row8 hTw7 2 _ rfl
          have t3 : w7.cell? ⟨w4.heap.size, 3, none⟩ = some (.slice none 0 0) := row8 hTw7 3 _ rfl
          have hzw7 := hbw7.size
          have HBw7 := Lib.hid hbw7
          clear hXw7 hYw7 hTw7 hbw7
          go_wp2_with fail
          refine (told_any _ (opE o F a0 b 3) (.slice none 0 0) (.slice (some ⟨w7.heap.size, 0, none⟩) 3 3) (opE_ok3 w7 _ F a0 b) (opE_fit _ F a0 b 3 R0.out R2.out)).mono ?_
          rintro en w8 ⟨rfl, hbn⟩
          have HB8 := Lib.hid (HBw7.out.trans ((((Below.refl _ w7).alloc (Nat.le_refl _) _).trans (hbn.mono (by simp))).mono HBw7.out.size))
          clear hbn
          clear x0 y0 x1 y1 x2 y2 x3 y3 x4 y4 x5 y5 x6 y6 x7 y7 t0 t1 t2 t3
          go_wp2_with fail
          go_roundw
          case rel => first | exact ⟨j + 1, by omega, by go_num, HB5.out.trans (HB8.out.mono HB5.out.size)⟩ | ((repeat apply Exists.intro); exact ⟨⟨j + 1, by omega, by go_num, HB5.out.trans (HB8.out.mono HB5.out.size)⟩, rfl⟩)
          case measure => simp [intOf]; omega
        · obtain rfl : j = 5 := by omega
          have HBE := Lib.hid (HBF.out.trans (hbz.mono HBF.out.size))
          clear hbz
          go_wp2_with fail
          go_roundw
          case rel => exact ⟨o + 1, by omega, by omega, by go_num, HBE.out⟩
          case measure => simp [intOf]; omega
    · obtain rfl : o = 35 := by omega
      have HBE := Lib.hid (HBK.out.trans (hb.mono HBK.out.size))
      clear hb
      go_wp2_with fail
      refine (num_prog wo a2 a0).mono ?_
      rintro en w1 ⟨he, hb1⟩
      obtain rfl : en = .returned (.agg #[.int .i64 0, .int .i64 a2, .int .i64 0, .string ByteArray.empty, .slice none 0 0, .int .i32 a0, .string ByteArray.empty, .slice none 0 0]) := he
      go_wp2_with fail
      refine (num_ref w1 a2 a0).mono ?_
      rintro en w2 ⟨he, hb2⟩
      obtain rfl : en = .returned (.agg #[.int .i64 0, .int .i64 a2, .int .i64 0, .string ByteArray.empty, .slice none 0 0, .int .i32 a0, .string ByteArray.empty, .slice none 0 0]) := he
      go_wp2_with fail
      refine (same_self (numE a2 a0) w2 _ _ _ _ (ExOk.num w2 a2 a0) (ExOk.num w2 a2 a0)).mono ?_
      rintro en w3 ⟨rfl, hb3⟩
      have HB3 := Lib.hid (HBE.out.trans ((hb1.trans ((hb2.trans (hb3.mono hb2.size)).mono hb1.size)).mono HBE.out.size))
      clear hb1 hb2 hb3
      go_wp2_with fail
      go_ret
      exact ⟨rfl, HB3.out⟩
end Go.Proofs.Ytiikeilpgajmfaa
