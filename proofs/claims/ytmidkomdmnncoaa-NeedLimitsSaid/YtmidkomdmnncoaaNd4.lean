/- Need: how many words a type takes: INTEGERs, and rows of them. -/
import Derived.Test.YtmidkomdmnncoaaNd3
namespace Go.Proofs.Ytmidkomdmnncoaa
open Go.RowKit Go.Waf
set_option maxRecDepth 100000
set_option linter.unusedVariables false
set_option linter.unusedSimpArgs false

def arrT (n : Nat) : Ty := .mk 7 (n : Int) ByteArray.empty 1 (fun _ => tyF 1)
theorem plain_prog (w : World) (f : Int) (B : Bool) (h : B = decide (1 ≤ f ∧ f ≤ 4)) : Calls Try.prog 30 #[.int .i64 f] w fun en w' => en = .returned (.bool B) ∧ w = w' := by
  by_cases h1 : 1 ≤ f
  · by_cases h4 : f ≤ 4
    · obtain rfl : B = true := by rw [h]; simp [h1, h4]
      clear h
      go_enter Try.func30, Try.ntmps30
      go_wp2_with fail
      go_ret
      exact ⟨rfl, rfl⟩
    · obtain rfl : B = false := by rw [h]; simp [h1, h4]
      clear h
      go_enter Try.func30, Try.ntmps30
      go_wp2_with fail
      go_ret
      exact ⟨rfl, rfl⟩
  · obtain rfl : B = false := by rw [h]; simp [h1]
    clear h
    go_enter Try.func30, Try.ntmps30
    go_wp2_with fail
    go_ret
    exact ⟨rfl, rfl⟩
def tyL (f n : Int) (v : Value) : Value := .agg #[.int .i64 f, .int .i64 n, .string { data := #[] }, v]
set_option maxHeartbeats 3200000 in
theorem right_int (w : World) (a : Option Addr) (c : Nat) : Calls Try.prog 28 #[tyL 1 0 (.slice a 0 c)] w fun en w' => en = .returned (.bool true) ∧ Below w.heap.size w w' := by
  have HP := Lib.hid (fun w => plain_prog w 1 true (by decide))
  unfold tyL
  go_enter Try.func28, Try.ntmps28
  go_wp2_with fail
  refine (HP.out _).mono ?_
  rintro en w2 ⟨rfl, rfl⟩
  go_wp2_with fail
  go_ret
  exact ⟨rfl, (Below.refl _ _).alloc (Nat.le_refl _) _⟩
set_option maxHeartbeats 3200000 in
theorem right_arr (w : World) (n : Nat) (h1 : 1 ≤ n) (h2 : n ≤ 1024) (v : Value) (hok : TyOk w (arrT n) v) : Calls Try.prog 28 #[tyL 7 (n : Int) v] w fun en w' => en = .returned (.bool true) ∧ Below w.heap.size w w' := by
  obtain ⟨a, c, rfl, k1, k2, hx⟩ := hok
  obtain ⟨b, o, rfl, hc⟩ := hx (by omega)
  obtain ⟨u, hu, c0, c1, c2, c3⟩ := hc 0 (by omega)
  obtain ⟨ua, uc, rfl, _, _⟩ := hu.shape
  simp only [Nat.zero_mul, Nat.add_zero] at c0 c1 c2 c3
  have HR := Lib.hid (fun W => right_int W ua uc)
  have HP := Lib.hid (fun w => plain_prog w 7 false (by decide))
  have d0 : w.cell? ⟨b, o, none⟩ = some (.int .i64 1) := c0
  have d1 : w.cell? ⟨b, o + 1, none⟩ = some (.int .i64 0) := c1
  have d2 : w.cell? ⟨b, o + 2, none⟩ = some (.string { data := #[] }) := c2
  have d3 : w.cell? ⟨b, o + 3, none⟩ = some (.slice ua 0 uc) := c3
  have hl := World.block_lt_of_cell? _ _ d0
  have hl2 : b < w.heap.size := hl
  clear hx hc hu c0 c1 c2 c3 hl
  unfold tyL at HR ⊢
  go_enter Try.func28, Try.ntmps28
  go_wp2_with fail
  refine (HP.out _).mono ?_
  rintro en w2 ⟨rfl, rfl⟩
  go_wp2_with fail
  refine (HR.out _).mono ?_
  rintro en w2 ⟨rfl, hb⟩
  have HB := Lib.hid (((Below.refl _ w).alloc (Nat.le_refl _) _).trans (hb.mono (by simp)))
  clear hb
  go_wp2_with fail
  go_ret
  exact ⟨rfl, HB.out⟩
set_option maxHeartbeats 3200000 in
theorem sizes_int (w : World) (z : Value) (a : Option Addr) (c : Nat) : Calls Try.prog 25 #[z, tyL 1 0 (.slice a 0 c)] w fun en w' => en = .returned (.int .i64 1) ∧ Below w.heap.size w w' := by
  have HR := Lib.hid (fun W => right_int W a c)
  unfold tyL at HR ⊢
  obtain ⟨w1, hw1⟩ : ∃ w1 : World, w1 = w.alloc (.cells #[.int .i64 1, .int .i64 0, .string { data := #[] }, .slice a 0 c] 33) := ⟨_, rfl⟩
  have HB1 := Lib.hid (show Below w.heap.size w w1 from by rw [hw1]; exact (Below.refl _ _).alloc (Nat.le_refl _) _)
  have HZ := Lib.hid (show w1.heap[w.heap.size]? = some (.cells #[.int .i64 1, .int .i64 0, .string { data := #[] }, .slice a 0 c] 33 (0, 0)) from by rw [hw1]; exact heap_alloc_new w _)
  have HW1 := Lib.hid hw1
  clear hw1
  go_enter Try.func25, Try.ntmps25
  go_wp2_with fail
  rw [← HW1.out]
  refine (HR.out _).mono ?_
  rintro en w2 ⟨rfl, hb⟩
  have c0 := cell_below hb (Nat.le_refl _) (rowC HZ.out 0 _)
  have HB := Lib.hid (HB1.out.trans (hb.mono HB1.out.size))
  clear hb
  go_wp2_with fail
  go_ret
  exact ⟨rfl, HB.out⟩
set_option maxHeartbeats 3200000 in
theorem sizes_arr (w : World) (z : Value) (n : Nat) (h1 : 1 ≤ n) (h2 : n ≤ 1024) (v : Value) (hok : TyOk w (arrT n) v) : Calls Try.prog 25 #[z, tyL 7 (n : Int) v] w fun en w' => en = .returned (.int .i64 (n : Int)) ∧ Below w.heap.size w w' := by
  have HR := Lib.hid (fun W (hb : Below w.heap.size w W) => right_arr W n h1 h2 v (TyOk.below hb (Nat.le_refl _) _ _ hok))
  have hok2 := hok
  obtain ⟨a, c, rfl, k1, k2, hx⟩ := hok
  obtain ⟨b, o, rfl, hc⟩ := hx (by omega)
  obtain ⟨u, hu, c0, c1, c2, c3⟩ := hc 0 (by omega)
  obtain ⟨ua, uc, rfl, _, _⟩ := hu.shape
  simp only [Nat.zero_mul, Nat.add_zero] at c0 c1 c2 c3
  have HI := Lib.hid (fun W => sizes_int W z ua uc)
  have HD := Lib.hid (show ∀ W, Below w.heap.size w W → W.cell? ⟨b, o, none⟩ = some (.int .i64 1) ∧ W.cell? ⟨b, o + 1, none⟩ = some (.int .i64 0) ∧ W.cell? ⟨b, o + 2, none⟩ = some (.string { data := #[] }) ∧ W.cell? ⟨b, o + 3, none⟩ = some (.slice ua 0 uc) from fun W hb => ⟨cell_below hb (Nat.le_refl _) c0, cell_below hb (Nat.le_refl _) c1, cell_below hb (Nat.le_refl _) c2, cell_below hb (Nat.le_refl _) c3⟩)
  clear hx hc hu c0 c1 c2 c3 hok2
  unfold tyL at HR HI ⊢
  obtain ⟨w1, hw1⟩ : ∃ w1 : World, w1 = w.alloc (.cells #[.int .i64 7, .int .i64 (n : Int), .string { data := #[] }, .slice (some ⟨b, o, none⟩) 1 c] 33) := ⟨_, rfl⟩
  have HB1 := Lib.hid (show Below w.heap.size w w1 from by rw [hw1]; exact (Below.refl _ _).alloc (Nat.le_refl _) _)
  have HZ := Lib.hid (show w1.heap[w.heap.size]? = some (.cells #[.int .i64 7, .int .i64 (n : Int), .string { data := #[] }, .slice (some ⟨b, o, none⟩) 1 c] 33 (0, 0)) from by rw [hw1]; exact heap_alloc_new w _)
  have HW1 := Lib.hid hw1
  clear hw1
  have hq : ¬ ((1 : Int) > 16384 / (n : Int)) := by
    have : (1 : Int) ≤ 16384 / (n : Int) := Int.le_ediv_of_mul_le (by omega) (by omega)
    omega
  go_enter Try.func25, Try.ntmps25
  go_wp2_with fail
  rw [← HW1.out]
  refine (HR.out _ HB1.out).mono ?_
  rintro en w2 ⟨rfl, hb⟩
  have e0 := cell_below hb (Nat.le_refl _) (rowC HZ.out 0 _)
  have e3 := cell_below hb (Nat.le_refl _) (rowC HZ.out 3 _)
  have HB12 := Lib.hid hb
  have HB := Lib.hid (HB1.out.trans (hb.mono HB1.out.size))
  obtain ⟨d0, d1, d2, d3⟩ := HD.out w2 HB.out
  clear hb
  go_wp2_with fail
  refine (HI.out _).mono ?_
  rintro en w3 ⟨rfl, hb⟩
  have g1 := cell_below (HB12.out.trans (hb.mono HB12.out.size)) (Nat.le_refl _) (rowC HZ.out 1 _)
  have HB3 := Lib.hid (HB.out.trans (hb.mono HB.out.size))
  clear hb
  go_wp2_with fail
  go_ret
  exact ⟨rfl, HB3.out⟩
end Go.Proofs.Ytmidkomdmnncoaa
