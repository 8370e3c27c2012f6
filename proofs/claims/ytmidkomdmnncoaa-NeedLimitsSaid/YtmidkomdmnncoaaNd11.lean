/- Need: Size, of modules without records. -/
import Derived.Test.YtmidkomdmnncoaaNd10
import Derived.Test.YtmidkomdmnncoaaNd5
namespace Go.Proofs.Ytmidkomdmnncoaa
open Go.RowKit Go.Waf
set_option maxRecDepth 100000
set_option linter.unusedVariables false
set_option linter.unusedSimpArgs false

def sumK (ks : Nat → Int) : Nat → Int
  | 0 => 0
  | j + 1 => sumK ks j + ks j
theorem sumK_bd {ks : Nat → Int} (h : ∀ j, 0 ≤ ks j ∧ ks j ≤ 1024) : ∀ j, 0 ≤ sumK ks j ∧ sumK ks j ≤ 1024 * j
  | 0 => by simp [sumK]
  | j + 1 => by have := sumK_bd h j; have := h j; simp only [sumK]; omega
/-- A variable at a place, whose type takes k words. -/
def VAt (w : World) (b o : Nat) (k : Int) : Prop := ∃ (nm : ByteArray) (ex : Bool) (f n : Int) (sa : Option Addr) (sn sc : Nat), w.cell? ⟨b, o, none⟩ = some (.string nm) ∧ w.cell? ⟨b, o + 1, none⟩ = some (.bool ex) ∧ w.cell? ⟨b, o + 2, none⟩ = some (.int .i64 f) ∧ w.cell? ⟨b, o + 3, none⟩ = some (.int .i64 n) ∧
  w.cell? ⟨b, o + 4, none⟩ = some (.string { data := #[] }) ∧ w.cell? ⟨b, o + 5, none⟩ = some (.slice sa sn sc) ∧
  ∀ W r, Below w.heap.size w W → Calls Try.prog 14 #[tyL f n (.slice sa sn sc), .map r] W fun en w' => en = .returned (.tuple #[.int .i64 k, .bool true]) ∧ Below W.heap.size W w'
theorem VAt.below {w w' : World} {b o : Nat} {k : Int} (h : VAt w b o k) (hb : Below w.heap.size w w') : VAt w' b o k := by
  obtain ⟨nm, ex, f, n, sa, sn, sc, c0, c1, c2, c3, c4, c5, hw⟩ := h
  exact ⟨nm, ex, f, n, sa, sn, sc, cell_below hb (Nat.le_refl _) c0, cell_below hb (Nat.le_refl _) c1, cell_below hb (Nat.le_refl _) c2, cell_below hb (Nat.le_refl _) c3, cell_below hb (Nat.le_refl _) c4, cell_below hb (Nat.le_refl _) c5, fun W r h2 => hw W r (hb.trans (h2.mono hb.size))⟩
def VsAt (w : World) (va : Option Addr) (nv : Nat) (ks : Nat → Int) : Prop := 0 < nv → ∃ b o, va = some ⟨b, o, none⟩ ∧ ∀ j, j < nv → VAt w b (o + j * 6) (ks j)
theorem VsAt.below {w w' : World} {va : Option Addr} {nv : Nat} {ks : Nat → Int} (h : VsAt w va nv ks) (hb : Below w.heap.size w w') : VsAt w' va nv ks := fun h0 => by
  obtain ⟨b, o, e, hc⟩ := h h0
  exact ⟨b, o, e, fun j hj => (hc j hj).below hb⟩
set_option maxHeartbeats 12800000 in
theorem size_any (w : World) (m : Mo) (v1 : Value) (n1 : Nat) (cs1 : List Value) (ks : Nat → Int) (hr1 : Rd w 8 v1 n1 cs1) (ho1 : ∀ u ∈ cs1, u.oneCell' = true) (hn1 : n1 ≤ 50) (hv : VsAt w m.va m.nv ks) (hk : ∀ j, 0 ≤ ks j ∧ ks j ≤ 1024) (hnv : m.nv ≤ m.vc ∧ m.vc ≤ 9223372036854775807 ∧ m.nv ≤ 1000)
    (HREC : ∀ W b c, Below w.heap.size w W → (∀ j u, (m.arr.toList ++ cs1)[j]? = some u → W.cell? ⟨b, 0 + j, none⟩ = some u) → 1 + n1 ≤ c → c ≤ 9223372036854775807 → Calls Try.prog 12 #[.slice (some ⟨b, 0, none⟩) (1 + n1) c] W fun en w' => (∃ r, en = .returned (.map (some r))) ∧ Below W.heap.size W w') :
    Calls Try.prog 9 #[m.val, v1] w fun en w' => en = .returned (.tuple #[.int .i64 (sumK ks m.nv), .bool true]) ∧ Below w.heap.size w w' := by
  obtain ⟨nm, va, nv, vc, pa, np, pc, ba, nb, bc⟩ := m
  have HV := Lib.hid (show VsAt w va nv ks from hv)
  obtain ⟨h1, h2, h3⟩ := (show nv ≤ vc ∧ vc ≤ 9223372036854775807 ∧ nv ≤ 1000 from hnv)
  have HS := Lib.hid (sumK_bd hk)
  have HKS := Lib.hid hk
  have HREC := Lib.hid HREC
  have HCC := Lib.hid (fun W B v0 hc0 hc1 hr0 hr1 => concat_prog W B v0 v1 1 n1 (Mo.mk nm va nv vc pa np pc ba nb bc).arr.toList cs1 hc0 hc1 hr0 hr1 (Nat.le_refl _) (by omega) (by simp [Mo.arr, Value.oneCell']) ho1)
  obtain ⟨a1, k1, rfl, p0, p1, _⟩ := rd_shape hr1
  have HR1 := Lib.hid hr1
  clear hv hnv hk hr1 ho1
  have hal : Below w.heap.size w (((w.alloc (.cells #[.string nm, .slice none 0 0, .slice none 0 0, .slice none 0 0, .slice none 0 0, .slice va nv vc, .slice pa np pc, .slice ba nb bc] 30)).alloc (.cells #[.string nm, .slice none 0 0, .slice none 0 0, .slice none 0 0, .slice none 0 0, .slice va nv vc, .slice pa np pc, .slice ba nb bc] 30)).alloc (.cells #[.slice (some ⟨w.heap.size + 1, 0, none⟩) 1 1, .slice a1 n1 k1] 51)) := (((Below.refl _ _).alloc (Nat.le_refl _) _).alloc (by simp) _).alloc (by simp; omega) _
  have HAL := Lib.hid hal
  clear hal
  unfold Mo.val Mo.arr
  go_enter Try.func9, Try.ntmps9
  go_wp2_with fail
  obtain ⟨W2, hW2⟩ : ∃ W2 : World, W2 = w.alloc (.cells #[.string nm, .slice none 0 0, .slice none 0 0, .slice none 0 0, .slice none 0 0, .slice va nv vc, .slice pa np pc, .slice ba nb bc] 30) := ⟨_, rfl⟩
  have hz2 : W2.heap.size = w.heap.size + 1 := by rw [hW2]; simp
  have b2 : Below w.heap.size w W2 := by rw [hW2]; exact (Below.refl _ _).alloc (Nat.le_refl _) _
  have hbx : W2.heap[w.heap.size]? = some (.cells #[.string nm, .slice none 0 0, .slice none 0 0, .slice none 0 0, .slice none 0 0, .slice va nv vc, .slice pa np pc, .slice ba nb bc] 30) := by rw [hW2]; exact heap_alloc_new _ _
  rw [← hW2] at HAL ⊢
  clear hW2
  have hr0 := rd_new W2 (Mo.mk nm va nv vc pa np pc ba nb bc).arr.toList 30 1 8 rfl (by simp [maxLen])
  simp only [Mo.arr] at hr0
  obtain ⟨W3, hW3⟩ : ∃ W3 : World, W3 = W2.alloc (.cells #[.string nm, .slice none 0 0, .slice none 0 0, .slice none 0 0, .slice none 0 0, .slice va nv vc, .slice pa np pc, .slice ba nb bc] 30) := ⟨_, rfl⟩
  have hz3 : W3.heap.size = w.heap.size + 2 := by rw [hW3]; simp; omega
  have b3 : Below W2.heap.size W2 W3 := by rw [hW3]; exact (Below.refl _ _).alloc (Nat.le_refl _) _
  have hr0 : Rd W3 8 (.slice (some ⟨w.heap.size + 1, 0, none⟩) 1 1) 1 (Mo.mk nm va nv vc pa np pc ba nb bc).arr.toList := by rw [← hz2, hW3]; exact hr0
  rw [← hW3] at HAL ⊢
  clear hW3
  obtain ⟨W4, hW4⟩ : ∃ W4 : World, W4 = W3.alloc (.cells #[.slice (some ⟨w.heap.size + 1, 0, none⟩) 1 1, .slice a1 n1 k1] 51) := ⟨_, rfl⟩
  have hz4 : W4.heap.size = w.heap.size + 3 := by rw [hW4]; simp; omega
  have b4 : Below W3.heap.size W3 W4 := by rw [hW4]; exact (Below.refl _ _).alloc (Nat.le_refl _) _
  have hnew : W4.heap[w.heap.size + 1 + 1]? = some (.cells #[.slice (some ⟨w.heap.size + 1, 0, none⟩) 1 1, .slice a1 n1 k1] 51) := by rw [hW4, show w.heap.size + 1 + 1 = W3.heap.size from hz3.symm]; exact heap_alloc_new _ _
  rw [← hW4] at HAL ⊢
  clear hW4
  refine (HCC.out W4 _ _ (rowC hnew 0 _) (rowC hnew 1 _) (hr0.below b4 (Nat.le_refl _)) (HR1.out.below HAL.out (Nat.le_refl _))).mono ?_
  rintro en w5 ⟨⟨v5, rfl, hv5⟩, hb5⟩
  obtain ⟨g, cap, rfl, hg1, hg2, hg3, hg4⟩ := owns_some hv5 (by omega)
  obtain ⟨_, _, _, hsl, _, _, _, hcells⟩ := rd_of_owns hv5
  obtain ⟨bq, oq, hbo, hcells⟩ := hcells (by omega)
  obtain ⟨rfl, rfl⟩ : _ ∧ _ := by simpa using (by injection hsl with e1 e2 e3; exact e1.trans hbo : (some ⟨g, 0, none⟩ : Option Addr) = some ⟨bq, oq, none⟩)
  have B5 := Lib.hid (HAL.out.trans (hb5.mono (by omega)))
  have hbx5 : w5.heap[w.heap.size]? = _ := (hb5.block _ (by omega)).trans ((b4.block _ (by omega)).trans ((b3.block _ (by omega)).trans hbx))
  have HRC := HREC.out w5 _ cap B5.out hcells hg3 hg4
  have hs5 := hb5.size
  have HX5 := Lib.hid hbx5
  clear hv5 hsl hbo hcells hbx5 hnew hr0 hbx b2 b3 b4
  go_wp2_with fail
  refine HRC.mono ?_
  rintro en w6 ⟨⟨r, rfl⟩, hb6⟩
  have B6 := Lib.hid (B5.out.trans (hb6.mono (by omega)))
  have hbx6 : w6.heap[w.heap.size]? = _ := (hb6.block _ (by omega)).trans HX5.out
  have hs6 := hb6.size
  have HX6 := Lib.hid hbx6
  have c5 := rowC hbx6 5 _
  clear hb6 HRC hbx6
  go_wp2_with fail
  go_loopw [7, 21] (fun n z wr => ∃ j : Nat, j ≤ nv ∧ z = .int .i64 (j : Int) ∧ n = .int .i64 (sumK ks j) ∧ Below w.heap.size w wr ∧ w6.heap.size ≤ wr.heap.size) (fun _ z _ => nv - (intOf z).toNat)
  case atStart => exact ⟨0, by omega, rfl, rfl, B6.out, Nat.le_refl _⟩
  case round =>
    obtain ⟨j, hj, rfl, rfl, hb, hsr⟩ := hrel
    have hsz := hb.size
    by_cases hlt : j < nv
    · obtain ⟨b, o, rfl, hc⟩ := HV.out (by omega)
      obtain ⟨nm1, ex, f, n, sa, sn, sc, d0, d1, d2, d3, d4, d5, hw⟩ := (hc j hlt).below hb
      have HW := Lib.hid hw
      unfold tyL at HW
      have HB := Lib.hid hb
      have hks := HKS.out j
      have hsm := HS.out j
      have HSJ := Lib.hid (show sumK ks (j + 1) = sumK ks j + ks j from rfl)
      obtain ⟨K, hK⟩ : ∃ K, K = ks j := ⟨_, rfl⟩
      rw [← hK] at HW HSJ hks
      obtain ⟨S, hS⟩ : ∃ S, S = sumK ks j := ⟨_, rfl⟩
      rw [← hS] at HSJ hsm ⊢
      clear hc hw hb hK hS
      go_wp2_with fail
      refine (HW.out _ _ ((Below.refl _ _).alloc (Nat.le_refl _) _)).mono ?_
      rintro en w7 ⟨rfl, hb7⟩
      have B7 := Lib.hid ((HB.out.alloc hsz _).trans (hb7.mono (by simp; omega)))
      have hs7 : w6.heap.size ≤ w7.heap.size := by have := hb7.size; simp at this; omega
      clear hb7
      go_wp2_with fail
      go_roundw
      case rel => exact ⟨j + 1, by omega, by go_num, by rw [HSJ.out], B7.out, hs7⟩
      case measure => simp [intOf]; omega
    · obtain rfl : j = nv := by omega
      have HB := Lib.hid hb
      clear hb
      go_wp2_with fail
      go_ret2
      exact ⟨rfl, HB.out⟩
end Go.Proofs.Ytmidkomdmnncoaa
