/- Order: the chapter's example. -/
import Derived.Test.YtelpnbjnjfajdaaOdr10
namespace Go.Proofs.Ytelpnbjnjfajdaa
open Go.RowKit Go.Waf Go.Maps
set_option maxRecDepth 100000
set_option linter.unusedVariables false
set_option linter.unusedSimpArgs false

def sA : ByteArray := { data := #[65] }
def sB : ByteArray := { data := #[66] }
def K1 (i : Nat) : Md := if i = 0 then ⟨sA, [sOut, sB]⟩ else ⟨sB, []⟩
def K2 (i : Nat) : Md := if i = 0 then ⟨sA, [sOut, sB]⟩ else ⟨sB, [sA]⟩
theorem needed_data (s : ByteArray) : needed s = (!(s.data.toList == [73, 110]) && !(s.data.toList == [79, 117, 116])) := by unfold needed; rw [ByteArray.toList_eq]
theorem atF_data (M : Nat → Md) (s : ByteArray) (f k : Nat) : atF M s (f + 1) k = if (M k).name.data.toList = s.data.toList then (k : Int) else atF M s f (k + 1) := by rw [atF, ByteArray.toList_eq, ByteArray.toList_eq]
theorem n1_0 : needsOf (K1 0).imps = [sB] := by
  simp only [K1, if_true, needsOf, List.filter, needed_data, sOut, sB]; rfl
theorem n1_1 : needsOf (K1 1).imps = [] := rfl
theorem n2_0 : needsOf (K2 0).imps = [sB] := by
  simp only [K2, if_true, needsOf, List.filter, needed_data, sOut, sB]; rfl
theorem n2_1 : needsOf (K2 1).imps = [sA] := by
  simp [K2, needsOf, List.filter, needed_data, sA]
theorem a1_B : atN K1 2 sB = 1 := by simp [atN, atF_data, K1, sA, sB]
theorem a1_A : atN K1 2 sA = 0 := by simp [atN, atF_data, K1, sA, sB]
theorem a2_B : atN K2 2 sB = 1 := by simp [atN, atF_data, K2, sA, sB]
theorem a2_A : atN K2 2 sA = 0 := by simp [atN, atF_data, K2, sA, sB]
theorem i1_B : idxN K1 2 sB = 1 := by unfold idxN; rw [a1_B]; rfl
theorem i2_B : idxN K2 2 sB = 1 := by unfold idxN; rw [a2_B]; rfl
theorem i2_A : idxN K2 2 sA = 0 := by unfold idxN; rw [a2_A]; rfl
theorem v1_0 : (vis K1 2 2 st0 0) = (true, ⟨upd (upd (fun _ => false) 0) 1, [1, 0]⟩) := by
  simp [vis, n1_0, n1_1, visL, i1_B, st0, St.mark, upd, St.done]
theorem v1_1 : (vis K1 2 2 ⟨upd (upd (fun _ => false) 0) 1, [1, 0]⟩ 1) = (true, ⟨upd (upd (fun _ => false) 0) 1, [1, 0]⟩) := by simp [vis]
theorem v2_0 : (vis K2 2 2 st0 0).1 = false := by
  simp [vis, n2_0, n2_1, visL, i2_B, i2_A, st0, St.mark, upd, St.done]
theorem ord_K1 : ordR K1 2 = ([1, 0], 0) := by
  have e : visAll K1 2 2 0 st0 = (true, ⟨upd (upd (fun _ => false) 0) 1, [1, 0]⟩) := by
    rw [visAll, v1_0, if_pos rfl, visAll, v1_1, if_pos rfl, visAll]
  have h1 : Once K1 2 := fun i hi => by
    match i, hi with
    | 0, _ => exact a1_A
    | 1, _ => exact a1_B
  have h2 : All K1 2 := fun i hi x hx => by
    match i, hi with
    | 0, _ =>
      rw [n1_0] at hx
      rw [List.mem_singleton.1 hx, a1_B]; decide
    | 1, _ => rw [n1_1] at hx; cases hx
  unfold ordR
  rw [if_neg (by decide), if_neg (fun h => h h1), if_neg (fun h => h h2), e, if_pos rfl]
theorem ord_K2 : ordR K2 2 = ([], 41) := by
  have e : (visAll K2 2 2 0 st0).1 = false := by
    rw [visAll, if_neg (by rw [v2_0]; decide)]
  have h1 : Once K2 2 := fun i hi => by
    match i, hi with
    | 0, _ => exact a2_A
    | 1, _ => exact a2_B
  have h2 : All K2 2 := fun i hi x hx => by
    match i, hi with
    | 0, _ =>
      rw [n2_0] at hx
      rw [List.mem_singleton.1 hx, a2_B]; decide
    | 1, _ =>
      rw [n2_1] at hx
      rw [List.mem_singleton.1 hx, a2_A]; decide
  unfold ordR
  rw [if_neg (by decide), if_neg (fun h => h h1), if_neg (fun h => h h2), if_neg (by rw [e]; decide)]

abbrev modArr (s : ByteArray) (iv : Value) : Array Value := #[.string s, iv, .slice none 0 0, .slice none 0 0, .slice none 0 0, .slice none 0 0, .slice none 0 0, .slice none 0 0]
abbrev twoArr (s t : ByteArray) (iv jv : Value) : Array Value := #[.string s, iv, .slice none 0 0, .slice none 0 0, .slice none 0 0, .slice none 0 0, .slice none 0 0, .slice none 0 0, .string t, jv, .slice none 0 0, .slice none 0 0, .slice none 0 0, .slice none 0 0, .slice none 0 0, .slice none 0 0]
theorem two_mods (w : World) (b : Nat) (M : Nat → Md) (iv jv : Value) (hc : ∀ j, w.cell? ⟨b, j, none⟩ = (twoArr (M 0).name (M 1).name iv jv)[j]?) (h0 : Rd w 1 iv (M 0).imps.length (strs (M 0).imps)) (h1 : Rd w 1 jv (M 1).imps.length (strs (M 1).imps))
    (hs : ∀ i, i < 2 → (M i).imps.length ≤ 1000 ∧ (M i).name.size ≤ 1000 ∧ ∀ s ∈ (M i).imps, s.size ≤ 1000) : ModsAt w (some ⟨b, 0, none⟩) 2 2 M := by
  refine ⟨by decide, by decide, fun _ => ⟨b, 0, rfl, fun i hi => ?_⟩, fun i hi => (hs i hi).1, fun i hi => (hs i hi).2.1, fun i hi => (hs i hi).2.2⟩
  match i, hi with
  | 0, _ => exact ⟨iv, h0, hc 0, hc 1, hc 2, hc 3, hc 4, hc 5, hc 6, hc 7⟩
  | 1, _ => exact ⟨jv, h1, hc 8, hc 9, hc 10, hc 11, hc 12, hc 13, hc 14, hc 15⟩
theorem blkAt {k : Nat} (w : World) (o : Obj) (h : k = w.heap.size) : (w.alloc o).heap[k]? = some o := by subst h; exact heap_alloc_new w o
theorem small1 : ∀ i, i < 2 → (K1 i).imps.length ≤ 1000 ∧ (K1 i).name.size ≤ 1000 ∧ ∀ s ∈ (K1 i).imps, s.size ≤ 1000 := by
  intro i hi
  match i, hi with
  | 0, _ => exact ⟨by decide, by decide, fun s hs => by
      simp only [K1, if_true, List.mem_cons, List.not_mem_nil, or_false] at hs
      rcases hs with rfl | rfl <;> decide⟩
  | 1, _ => exact ⟨by decide, by decide, fun s hs => by simp [K1] at hs⟩
theorem small2 : ∀ i, i < 2 → (K2 i).imps.length ≤ 1000 ∧ (K2 i).name.size ≤ 1000 ∧ ∀ s ∈ (K2 i).imps, s.size ≤ 1000 := by
  intro i hi
  match i, hi with
  | 0, _ => exact ⟨by decide, by decide, fun s hs => by
      simp only [K2, if_true, List.mem_cons, List.not_mem_nil, or_false] at hs
      rcases hs with rfl | rfl <;> decide⟩
  | 1, _ => exact ⟨by decide, by decide, fun s hs => by
      simp [K2] at hs
      rcases hs with rfl; decide⟩

set_option maxHeartbeats 6400000 in
theorem known_prog (w : World) : Calls Try.prog 5 #[] w fun e w' => e = .returned (.bool true) ∧ Below w.heap.size w w' := by
  go_enter Try.func5, Try.ntmps5
  go_wp2_with fail
  obtain ⟨w1, hw1⟩ : ∃ w1 : World, w1 = (((w.alloc (.cells #[.string sOut, .string sB] 9)).alloc (.cells (modArr sA (.slice (some ⟨w.heap.size, 0, none⟩) 2 2)) 44)).alloc (.cells (modArr sB (.slice none 0 0)) 44)).alloc (.cells (twoArr sA sB (.slice (some ⟨w.heap.size, 0, none⟩) 2 2) (.slice none 0 0)) 44) := ⟨_, rfl⟩
  change Calls _ _ _ ((((w.alloc (.cells #[.string sOut, .string sB] 9)).alloc (.cells (modArr sA (.slice (some ⟨w.heap.size, 0, none⟩) 2 2)) 44)).alloc (.cells (modArr sB (.slice none 0 0)) 44)).alloc (.cells (twoArr sA sB (.slice (some ⟨w.heap.size, 0, none⟩) 2 2) (.slice none 0 0)) 44)) _
  rw [← hw1]
  have hs1 : w1.heap.size = w.heap.size + 4 := by rw [hw1]; simp
  have h_i : w1.heap[w.heap.size]? = some (.cells #[.string sOut, .string sB] 9 (0, 0)) := by rw [hw1]; exact blk_alloc (blk_alloc (blk_alloc (blkAt _ _ (by simp)) _) _) _
  have h_a : w1.heap[w.heap.size + 1]? = some (.cells (modArr sA (.slice (some ⟨w.heap.size, 0, none⟩) 2 2)) 44 (0, 0)) := by rw [hw1]; exact blk_alloc (blk_alloc (blkAt _ _ (by simp)) _) _
  have h_b : w1.heap[w.heap.size + 1 + 1]? = some (.cells (modArr sB (.slice none 0 0)) 44 (0, 0)) := by rw [hw1]; exact blk_alloc (blkAt _ _ (by simp)) _
  have h_m : w1.heap[w.heap.size + 1 + 1 + 1]? = some (.cells (twoArr sA sB (.slice (some ⟨w.heap.size, 0, none⟩) 2 2) (.slice none 0 0)) 44 (0, 0)) := by rw [hw1]; exact blkAt _ _ (by simp)
  have hb1 : Below w.heap.size w w1 := by
    rw [hw1]
    exact ((((Below.refl _ w).alloc (Nat.le_refl _) _).alloc (by simp) _).alloc (by simp; omega) _).alloc (by simp; omega) _
  have hri : Rd w1 1 (.slice (some ⟨w.heap.size, 0, none⟩) 2 2) 2 (strs [sOut, sB]) := Rd.of_cells rfl (Nat.le_refl _) (by decide) fun j u hu => by
    rw [Nat.zero_add]; exact (cell_of_row w1 _ j _ _ _ h_i).trans (by simpa [strs] using hu)
  have hM1 := two_mods w1 (w.heap.size + 1 + 1 + 1) K1 (.slice (some ⟨w.heap.size, 0, none⟩) 2 2) (.slice none 0 0) (fun j => cell_of_row w1 _ j _ _ _ h_m) hri (Rd.nil _ _) small1
  refine (order_prog w1 _ 2 2 K1 hM1).mono ?_
  rw [ord_K1]
  rintro e w2 ⟨⟨v, rfl, hv⟩, hb2⟩
  obtain ⟨va, vc, rfl, v1, v2, v3⟩ := rd_shape hv
  have g_a := h_a
  rw [← hb2.block _ (by omega)] at g_a
  have g_b := h_b
  rw [← hb2.block _ (by omega)] at g_b
  have fb := frozen_of_row w2 _ 1 _ _ g_b
  have a0 : w2.cell? ⟨w.heap.size + 1, 0, none⟩ = some (.string sA) := (cell_of_row w2 _ 0 _ _ _ g_a).trans rfl
  have a1 : w2.cell? ⟨w.heap.size + 1, 1, none⟩ = some (.slice (some ⟨w.heap.size, 0, none⟩) 2 2) := (cell_of_row w2 _ 1 _ _ _ g_a).trans rfl
  have a2 : w2.cell? ⟨w.heap.size + 1, 2, none⟩ = some (.slice none 0 0) := (cell_of_row w2 _ 2 _ _ _ g_a).trans rfl
  have a3 : w2.cell? ⟨w.heap.size + 1, 3, none⟩ = some (.slice none 0 0) := (cell_of_row w2 _ 3 _ _ _ g_a).trans rfl
  have a4 : w2.cell? ⟨w.heap.size + 1, 4, none⟩ = some (.slice none 0 0) := (cell_of_row w2 _ 4 _ _ _ g_a).trans rfl
  have a5 : w2.cell? ⟨w.heap.size + 1, 5, none⟩ = some (.slice none 0 0) := (cell_of_row w2 _ 5 _ _ _ g_a).trans rfl
  have a6 : w2.cell? ⟨w.heap.size + 1, 6, none⟩ = some (.slice none 0 0) := (cell_of_row w2 _ 6 _ _ _ g_a).trans rfl
  have a7 : w2.cell? ⟨w.heap.size + 1, 7, none⟩ = some (.slice none 0 0) := (cell_of_row w2 _ 7 _ _ _ g_a).trans rfl
  have b0 : w2.cell? ⟨w.heap.size + 1 + 1, 0, none⟩ = some (.string sB) := (cell_of_row w2 _ 0 _ _ _ g_b).trans rfl
  have b1 : w2.cell? ⟨w.heap.size + 1 + 1, 1, none⟩ = some (.slice none 0 0) := (cell_of_row w2 _ 1 _ _ _ g_b).trans rfl
  have b2 : w2.cell? ⟨w.heap.size + 1 + 1, 2, none⟩ = some (.slice none 0 0) := (cell_of_row w2 _ 2 _ _ _ g_b).trans rfl
  have b3 : w2.cell? ⟨w.heap.size + 1 + 1, 3, none⟩ = some (.slice none 0 0) := (cell_of_row w2 _ 3 _ _ _ g_b).trans rfl
  have b4 : w2.cell? ⟨w.heap.size + 1 + 1, 4, none⟩ = some (.slice none 0 0) := (cell_of_row w2 _ 4 _ _ _ g_b).trans rfl
  have b5 : w2.cell? ⟨w.heap.size + 1 + 1, 5, none⟩ = some (.slice none 0 0) := (cell_of_row w2 _ 5 _ _ _ g_b).trans rfl
  have b6 : w2.cell? ⟨w.heap.size + 1 + 1, 6, none⟩ = some (.slice none 0 0) := (cell_of_row w2 _ 6 _ _ _ g_b).trans rfl
  have b7 : w2.cell? ⟨w.heap.size + 1 + 1, 7, none⟩ = some (.slice none 0 0) := (cell_of_row w2 _ 7 _ _ _ g_b).trans rfl
  have hs2 := hb2.size
  have hri2 := hri.below hb2 (Nat.le_refl _)
  have hb12 := hb1.trans (hb2.mono hb1.size)
  have HV := Lib.hid hv
  have HGA := Lib.hid g_a
  have HGB := Lib.hid g_b
  have HRI := Lib.hid hri2
  have HB12 := Lib.hid hb12
  have HS1 := Lib.hid hs1
  have hl2 : w.heap.size + 1 + 1 < w2.heap.size := by omega
  clear hri hri2 hv g_a g_b h_i h_a h_b h_m hw1 hM1 hb12 hs1 hb2 hb1
  go_upto_region 4 with fail
  obtain ⟨w3, hw3⟩ : ∃ w3 : World, w3 = (w2.setCell ⟨w.heap.size + 1 + 1, 1, none⟩ (.slice (some ⟨w2.heap.size, 0, none⟩) 1 1)).alloc (.cells #[.string sA] 9) := ⟨_, rfl⟩
  change Code.wp _ _ _ _ ((w2.setCell ⟨w.heap.size + 1 + 1, 1, none⟩ (.slice (some ⟨w2.heap.size, 0, none⟩) 1 1)).alloc (.cells #[.string sA] 9))
  rw [← hw3]
  have hne : w.heap.size + 1 ≠ w.heap.size + 1 + 1 := by omega
  have g_a : w3.heap[w.heap.size + 1]? = some (.cells (modArr sA (.slice (some ⟨w.heap.size, 0, none⟩) 2 2)) 44 (0, 0)) := by rw [hw3]; exact blk_alloc (blk_set_other HGA.out _ _ hne) _
  have g_b : w3.heap[w.heap.size + 1 + 1]? = some (.cells (modArr sB (.slice (some ⟨w2.heap.size, 0, none⟩) 1 1)) 44 (0, 0)) := by rw [hw3]; exact blk_alloc (by rw [heap_setCell_same _ _ 1 _ _ _ HGB.out]; rfl) _
  have hsz : (w2.setCell ⟨w.heap.size + 1 + 1, 1, none⟩ (.slice (some ⟨w2.heap.size, 0, none⟩) 1 1)).heap.size = w2.heap.size := by simp [World.setCell]
  have g_s : w3.heap[w2.heap.size]? = some (.cells #[.string sA] 9 (0, 0)) := by rw [hw3]; exact blkAt _ _ hsz.symm
  have hF : Fr (fun k => k = w.heap.size + 1 + 1) w2 w3 := by rw [hw3]; exact ((Fr.refl (fun k => k = w.heap.size + 1 + 1) w2).setCell (.inr rfl) _).alloc _
  have hb3 : Below w.heap.size w w3 := by rw [hw3]; exact (HB12.out.setCell (by show w.heap.size ≤ w.heap.size + 1 + 1; omega) _).alloc (by rw [hsz]; exact HB12.out.size) _
  have hs3 : w3.heap.size = w2.heap.size + 1 := by rw [hw3]; simp [World.setCell]
  have hri3 : Rd w3 1 (.slice (some ⟨w.heap.size, 0, none⟩) 2 2) 2 (strs [sOut, sB]) := hF.rd HRI.out fun k hk hf => by
    simp [Value.ownBlock] at hk; omega
  have hrs : Rd w3 1 (.slice (some ⟨w2.heap.size, 0, none⟩) 1 1) 1 (strs [sA]) := Rd.of_cells rfl (Nat.le_refl _) (by decide) fun j u hu => by
    rw [Nat.zero_add]; exact (cell_of_row w3 _ j _ _ _ g_s).trans (by simpa [strs] using hu)
  have hv3 : Rd w3 1 (.slice va 2 vc) 2 (nats [1, 0]) := hF.rd HV.out fun k hk hf => by
    obtain ⟨_, a', c', he, _, _, _, hc⟩ := HV.out
    cases he
    obtain ⟨b, off, rfl, hcc⟩ := hc (by decide)
    have h1 := hcc 0 _ rfl
    have : b = w.heap.size + 1 + 1 := by simp [Value.ownBlock] at hk; omega
    subst this
    rw [cell_of_row w2 _ (off + 0) _ _ _ HGB.out] at h1
    match off, h1 with
    | 0, h => cases h
    | 1, h => cases h
    | 2, h => cases h
    | 3, h => cases h
    | 4, h => cases h
    | 5, h => cases h
    | 6, h => cases h
    | 7, h => cases h
    | n + 8, h => simp at h
  clear a0 a1 a2 a3 a4 a5 a6 a7 b0 b1 b2 b3 b4 b5 b6 b7 fb
  have a0 : w3.cell? ⟨w.heap.size + 1, 0, none⟩ = some (.string sA) := (cell_of_row w3 _ 0 _ _ _ g_a).trans rfl
  have a1 : w3.cell? ⟨w.heap.size + 1, 1, none⟩ = some (.slice (some ⟨w.heap.size, 0, none⟩) 2 2) := (cell_of_row w3 _ 1 _ _ _ g_a).trans rfl
  have a2 : w3.cell? ⟨w.heap.size + 1, 2, none⟩ = some (.slice none 0 0) := (cell_of_row w3 _ 2 _ _ _ g_a).trans rfl
  have a3 : w3.cell? ⟨w.heap.size + 1, 3, none⟩ = some (.slice none 0 0) := (cell_of_row w3 _ 3 _ _ _ g_a).trans rfl
  have a4 : w3.cell? ⟨w.heap.size + 1, 4, none⟩ = some (.slice none 0 0) := (cell_of_row w3 _ 4 _ _ _ g_a).trans rfl
  have a5 : w3.cell? ⟨w.heap.size + 1, 5, none⟩ = some (.slice none 0 0) := (cell_of_row w3 _ 5 _ _ _ g_a).trans rfl
  have a6 : w3.cell? ⟨w.heap.size + 1, 6, none⟩ = some (.slice none 0 0) := (cell_of_row w3 _ 6 _ _ _ g_a).trans rfl
  have a7 : w3.cell? ⟨w.heap.size + 1, 7, none⟩ = some (.slice none 0 0) := (cell_of_row w3 _ 7 _ _ _ g_a).trans rfl
  have b0 : w3.cell? ⟨w.heap.size + 1 + 1, 0, none⟩ = some (.string sB) := (cell_of_row w3 _ 0 _ _ _ g_b).trans rfl
  have b1 : w3.cell? ⟨w.heap.size + 1 + 1, 1, none⟩ = some (.slice (some ⟨w2.heap.size, 0, none⟩) 1 1) := (cell_of_row w3 _ 1 _ _ _ g_b).trans rfl
  have b2 : w3.cell? ⟨w.heap.size + 1 + 1, 2, none⟩ = some (.slice none 0 0) := (cell_of_row w3 _ 2 _ _ _ g_b).trans rfl
  have b3 : w3.cell? ⟨w.heap.size + 1 + 1, 3, none⟩ = some (.slice none 0 0) := (cell_of_row w3 _ 3 _ _ _ g_b).trans rfl
  have b4 : w3.cell? ⟨w.heap.size + 1 + 1, 4, none⟩ = some (.slice none 0 0) := (cell_of_row w3 _ 4 _ _ _ g_b).trans rfl
  have b5 : w3.cell? ⟨w.heap.size + 1 + 1, 5, none⟩ = some (.slice none 0 0) := (cell_of_row w3 _ 5 _ _ _ g_b).trans rfl
  have b6 : w3.cell? ⟨w.heap.size + 1 + 1, 6, none⟩ = some (.slice none 0 0) := (cell_of_row w3 _ 6 _ _ _ g_b).trans rfl
  have b7 : w3.cell? ⟨w.heap.size + 1 + 1, 7, none⟩ = some (.slice none 0 0) := (cell_of_row w3 _ 7 _ _ _ g_b).trans rfl
  have HGA3 := Lib.hid g_a
  have HV3 := Lib.hid hv3
  have HB3 := Lib.hid hb3
  have HS3 := Lib.hid hs3
  have HRI3 := Lib.hid hri3
  have HRS := Lib.hid hrs
  clear g_a g_b g_s hb3 hs3 hri3 hrs hv3 hw3 HRI HGA HGB hF hsz
  go_wp2_with fail
  obtain ⟨w4, hw4⟩ : ∃ w4 : World, w4 = w3.alloc (.cells (twoArr sA sB (.slice (some ⟨w.heap.size, 0, none⟩) 2 2) (.slice (some ⟨w2.heap.size, 0, none⟩) 1 1)) 44) := ⟨_, rfl⟩
  change Calls _ _ _ (w3.alloc (.cells (twoArr sA sB (.slice (some ⟨w.heap.size, 0, none⟩) 2 2) (.slice (some ⟨w2.heap.size, 0, none⟩) 1 1)) 44)) _
  rw [← hw4]
  have hb34 : Below w3.heap.size w3 w4 := by rw [hw4]; exact (Below.refl _ _).alloc (Nat.le_refl _) _
  have h_m : w4.heap[w3.heap.size]? = some (.cells (twoArr sA sB (.slice (some ⟨w.heap.size, 0, none⟩) 2 2) (.slice (some ⟨w2.heap.size, 0, none⟩) 1 1)) 44 (0, 0)) := by rw [hw4]; exact heap_alloc_new _ _
  have hM2 := two_mods w4 w3.heap.size K2 (.slice (some ⟨w.heap.size, 0, none⟩) 2 2) (.slice (some ⟨w2.heap.size, 0, none⟩) 1 1) (fun j => cell_of_row w4 _ j _ _ _ h_m) (HRI3.out.below hb34 (Nat.le_refl _)) (HRS.out.below hb34 (Nat.le_refl _)) small2
  refine (order_prog w4 _ 2 2 K2 hM2).mono ?_
  rw [ord_K2]
  rintro e w5 ⟨⟨u, rfl, hu⟩, hb5⟩
  have hb35 : Below w3.heap.size w3 w5 := hb34.trans (hb5.mono hb34.size)
  have h_a5 := HGA3.out
  rw [← hb35.block _ (Array.getElem?_eq_some_iff.1 HGA3.out).1] at h_a5
  have hri5 := HRI3.out.below hb35 (Nat.le_refl _)
  have hv5 := HV3.out.below hb35 (Nat.le_refl _)
  have hb05 := HB3.out.trans (hb35.mono HB3.out.size)
  clear a0 a1 a2 a3 a4 a5 a6 a7 b0 b1 b2 b3 b4 b5 b6 b7
  have a0 : w5.cell? ⟨w.heap.size + 1, 0, none⟩ = some (.string sA) := (cell_of_row w5 _ 0 _ _ _ h_a5).trans rfl
  have a1 : w5.cell? ⟨w.heap.size + 1, 1, none⟩ = some (.slice (some ⟨w.heap.size, 0, none⟩) 2 2) := (cell_of_row w5 _ 1 _ _ _ h_a5).trans rfl
  have a2 : w5.cell? ⟨w.heap.size + 1, 2, none⟩ = some (.slice none 0 0) := (cell_of_row w5 _ 2 _ _ _ h_a5).trans rfl
  have a3 : w5.cell? ⟨w.heap.size + 1, 3, none⟩ = some (.slice none 0 0) := (cell_of_row w5 _ 3 _ _ _ h_a5).trans rfl
  have a4 : w5.cell? ⟨w.heap.size + 1, 4, none⟩ = some (.slice none 0 0) := (cell_of_row w5 _ 4 _ _ _ h_a5).trans rfl
  have a5 : w5.cell? ⟨w.heap.size + 1, 5, none⟩ = some (.slice none 0 0) := (cell_of_row w5 _ 5 _ _ _ h_a5).trans rfl
  have a6 : w5.cell? ⟨w.heap.size + 1, 6, none⟩ = some (.slice none 0 0) := (cell_of_row w5 _ 6 _ _ _ h_a5).trans rfl
  have a7 : w5.cell? ⟨w.heap.size + 1, 7, none⟩ = some (.slice none 0 0) := (cell_of_row w5 _ 7 _ _ _ h_a5).trans rfl
  have HRI5 := Lib.hid hri5
  have HV5 := Lib.hid hv5
  have HB5 := Lib.hid hb05
  have HGA5 := Lib.hid h_a5
  clear hw4 hb34 h_m hM2 hu hb5 hb35 h_a5 hri5 hv5 hb05
  go_wp2_with fail
  have hb56 : Below w5.heap.size w5 (w5.alloc (.cells #[.int .i64 1, .int .i64 0] 3)) := (Below.refl _ _).alloc (Nat.le_refl _) _
  refine (ints_same _ _ _ [1, 0] (HV5.out.below hb56 (Nat.le_refl _)) (rd_new w5 (nats [1, 0]) _ 2 1 rfl (by decide))).mono ?_
  rintro e w6 ⟨rfl, hb6⟩
  have hb57 : Below w5.heap.size w5 w6 := hb56.trans (hb6.mono hb56.size)
  have h_a6 := HGA5.out
  rw [← hb57.block _ (Array.getElem?_eq_some_iff.1 HGA5.out).1] at h_a6
  have hri6 := HRI5.out.below hb57 (Nat.le_refl _)
  have hb06 := HB5.out.trans (hb57.mono HB5.out.size)
  clear a0 a1 a2 a3 a4 a5 a6 a7
  have a0 : w6.cell? ⟨w.heap.size + 1, 0, none⟩ = some (.string sA) := (cell_of_row w6 _ 0 _ _ _ h_a6).trans rfl
  have a1 : w6.cell? ⟨w.heap.size + 1, 1, none⟩ = some (.slice (some ⟨w.heap.size, 0, none⟩) 2 2) := (cell_of_row w6 _ 1 _ _ _ h_a6).trans rfl
  have a2 : w6.cell? ⟨w.heap.size + 1, 2, none⟩ = some (.slice none 0 0) := (cell_of_row w6 _ 2 _ _ _ h_a6).trans rfl
  have a3 : w6.cell? ⟨w.heap.size + 1, 3, none⟩ = some (.slice none 0 0) := (cell_of_row w6 _ 3 _ _ _ h_a6).trans rfl
  have a4 : w6.cell? ⟨w.heap.size + 1, 4, none⟩ = some (.slice none 0 0) := (cell_of_row w6 _ 4 _ _ _ h_a6).trans rfl
  have a5 : w6.cell? ⟨w.heap.size + 1, 5, none⟩ = some (.slice none 0 0) := (cell_of_row w6 _ 5 _ _ _ h_a6).trans rfl
  have a6 : w6.cell? ⟨w.heap.size + 1, 6, none⟩ = some (.slice none 0 0) := (cell_of_row w6 _ 6 _ _ _ h_a6).trans rfl
  have a7 : w6.cell? ⟨w.heap.size + 1, 7, none⟩ = some (.slice none 0 0) := (cell_of_row w6 _ 7 _ _ _ h_a6).trans rfl
  have hN := needs_prog w6 sA _ [sOut, sB] (by decide) hri6
  rw [show needsOf [sOut, sB] = [sB] from n1_0] at hN
  have HN := Lib.hid hN
  have HB6 := Lib.hid hb06
  clear hb56 hb6 hb57 h_a6 hri6 hb06 hN
  go_wp2_with fail
  refine HN.out.mono ?_
  rintro e w7 ⟨v, rfl, hrow, hb7⟩
  obtain ⟨na, nc, rfl, x1, x2, x3⟩ := owns_shape hrow
  have HROW := Lib.hid (rd_of_owns hrow)
  have HB7 := Lib.hid (HB6.out.trans (hb7.mono HB6.out.size))
  clear hrow hb7 a0 a1 a2 a3 a4 a5 a6 a7
  go_wp2_with fail
  have hb78 : Below w7.heap.size w7 (w7.alloc (.cells #[.string sB] 9)) := (Below.refl _ _).alloc (Nat.le_refl _) _
  refine (strs_same _ _ _ [sB] (HROW.out.below hb78 (Nat.le_refl _)) (rd_new w7 (strs [sB]) _ 1 1 rfl (by decide))).mono ?_
  rintro e w8 ⟨rfl, hb8⟩
  have HB8 := Lib.hid (HB7.out.trans ((hb78.trans (hb8.mono hb78.size)).mono HB7.out.size))
  clear hb78 hb8
  go_wp2_with fail
  go_ret
  exact ⟨rfl, HB8.out⟩
end Go.Proofs.Ytelpnbjnjfajdaa
