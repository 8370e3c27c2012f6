/- Need: Check of one module, of two. -/
import Derived.Test.YtmidkomdmnncoaaNd17
namespace Go.Proofs.Ytmidkomdmnncoaa
open Go.RowKit Go.Waf
set_option maxRecDepth 100000
set_option linter.unusedVariables false
set_option linter.unusedSimpArgs false

/-- A module whose parts lie well. -/
structure Good (w : World) (m : Mo) (ks : Nat → Int) (qa : Option Addr) (qn qc : Nat) (qf f : Nat → St) : Prop where
  v : VsAt w m.va m.nv ks
  k : ∀ j, 0 ≤ ks j ∧ ks j ≤ 1024
  nv : m.nv ≤ m.vc ∧ m.vc ≤ 9223372036854775807 ∧ m.nv ≤ 100
  p : PrsAt w m.pa m.np qa qn qc
  np : m.np ≤ m.pc ∧ m.pc ≤ 9223372036854775807 ∧ m.np ≤ 1000
  q : StsAt w qa qn qf
  nq : qn ≤ qc ∧ qc ≤ 9223372036854775807
  b : StsAt w m.ba m.nb f
  nb : m.nb ≤ m.bc ∧ m.bc ≤ 9223372036854775807
  most : mostM m.np qn qf m.nb f ≤ 1000000
  units : unitsM m.np qn qf m.nb f ≤ 1000000
theorem Good.below {w w' : World} {m : Mo} {ks : Nat → Int} {qa : Option Addr} {qn qc : Nat} {qf f : Nat → St} (h : Good w m ks qa qn qc qf f) (hb : Below w.heap.size w w') : Good w' m ks qa qn qc qf f :=
  ⟨h.v.below hb, h.k, h.nv, h.p.below hb, h.np, StsAt.below h.q hb (Nat.le_refl _), h.nq, StsAt.below h.b hb (Nat.le_refl _), h.nb, h.most, h.units⟩
section
variable {w : World} {m : Mo} {ks : Nat → Int} {qa : Option Addr} {qn qc : Nat} {qf f : Nat → St}
theorem Good.callMost (h : Good w m ks qa qn qc qf f) : Calls Try.prog 10 #[m.val] w fun en w' => en = .returned (.int .i64 (mostM m.np qn qf m.nb f : Int)) ∧ Below w.heap.size w w' := by
  obtain ⟨nm, va, nv, vc, pa, np, pc, ba, nb, bc⟩ := m
  exact most_prog w nm va nv vc pa np pc ba nb bc qa qn qc qf f h.np h.nb h.nq h.p h.q h.b h.most
theorem Good.callUnits (h : Good w m ks qa qn qc qf f) : Calls Try.prog 11 #[m.val] w fun en w' => en = .returned (.int .i64 (unitsM m.np qn qf m.nb f : Int)) ∧ Below w.heap.size w w' := by
  obtain ⟨nm, va, nv, vc, pa, np, pc, ba, nb, bc⟩ := m
  exact units_prog w nm va nv vc pa np pc ba nb bc qa qn qc qf f h.np h.nb h.nq h.p h.q h.b (Nat.le_trans h.units (by decide))
end
theorem moAt_of {W : World} {b : Nat} {cs : List Value} (hc : ∀ j u, cs[j]? = some u → W.cell? ⟨b, 0 + j, none⟩ = some u) (o : Nat) (m : Mo) (h : ∀ i, i < 8 → cs[o + i]? = m.arr.toList[i]?) : MoAt W b o m := by
  have k : ∀ i u, i < 8 → m.arr.toList[i]? = some u → W.cell? ⟨b, o + i, none⟩ = some u := fun i u hi hu => by
    have := hc (o + i) u ((h i hi).trans hu)
    rwa [Nat.zero_add] at this
  exact ⟨k 0 _ (by decide) rfl, k 1 _ (by decide) rfl, k 2 _ (by decide) rfl, k 3 _ (by decide) rfl, k 4 _ (by decide) rfl, k 5 _ (by decide) rfl, k 6 _ (by decide) rfl, k 7 _ (by decide) rfl⟩
theorem arr_len (m : Mo) : m.arr.toList.length = 8 := rfl
theorem arr_one (m : Mo) : ∀ u ∈ m.arr.toList, u.oneCell' = true := by simp [Mo.arr, Value.oneCell']
theorem cells_of_moAt {W : World} {b o : Nat} {m : Mo} (h : MoAt W b o m) : ∀ j u, m.arr.toList[j]? = some u → W.cell? ⟨b, o + j, none⟩ = some u := by
  obtain ⟨h0, h1, h2, h3, h4, h5, h6, h7⟩ := h
  intro j u hu
  have hj : j < 8 := by
    by_cases e : j < 8
    · exact e
    · rw [List.getElem?_eq_none (by rw [arr_len]; omega)] at hu; cases hu
  rcases (by omega : j = 0 ∨ j = 1 ∨ j = 2 ∨ j = 3 ∨ j = 4 ∨ j = 5 ∨ j = 6 ∨ j = 7) with rfl | rfl | rfl | rfl | rfl | rfl | rfl | rfl <;> (cases hu; assumption)
theorem rd_mo1 {W : World} {b c : Nat} {m : Mo} (h : MoAt W b 0 m) (h1 : 1 ≤ c) (h2 : c ≤ 9223372036854775807) : Rd W 8 (.slice (some ⟨b, 0, none⟩) 1 c) 1 m.arr.toList :=
  Rd.of_cells (by rw [arr_len]) h1 (by simp only [maxLen]; omega) (cells_of_moAt h)
theorem rd_mo2 {W : World} {b c : Nat} {m m2 : Mo} (h : MoAt W b 0 m) (hh : MoAt W b 8 m2) (h1 : 2 ≤ c) (h2 : c ≤ 9223372036854775807) : Rd W 8 (.slice (some ⟨b, 0, none⟩) 2 c) 2 (m.arr.toList ++ m2.arr.toList) :=
  Rd.of_cells (by rw [List.length_append, arr_len, arr_len]) h1 (by simp only [maxLen]; omega) fun j u hu => by
    by_cases e : j < 8
    · rw [List.getElem?_append_left (by rw [arr_len]; exact e)] at hu
      exact cells_of_moAt h j u hu
    · rw [List.getElem?_append_right (by rw [arr_len]; omega), arr_len] at hu
      have := cells_of_moAt hh _ u hu
      rwa [show 8 + (j - 8) = 0 + j from by omega] at this
set_option maxHeartbeats 1600000 in
theorem check_M (w : World) (b c : Nat) (m : Mo) (ks : Nat → Int) (qa : Option Addr) (qn qc : Nat) (qf f : Nat → St) (hm : MoAt w b 0 m) (hn : m.nm = { data := #[77] }) (h1 : 1 ≤ c) (h2 : c ≤ 9223372036854775807) (h : Good w m ks qa qn qc qf f) (sz : Nat) (hsz : (sz : Int) = sumK ks m.nv) :
    Calls Try.prog 6 #[.slice (some ⟨b, 0, none⟩) 1 c] w fun en w' => ∃ E, en = .returned (.int .i64 E) ∧ Told 1 (fun _ => mostM m.np qn qf m.nb f) (fun _ => sz) (fun _ => unitsM m.np qn qf m.nb f) E ∧ Below w.heap.size w w' := by
  have hs := sumK_bd h.k m.nv
  have hv := h.nv
  refine check_any w b 0 1 c (fun _ => m) _ _ _ h1 h2 (by decide) (fun j hj => ?_) (fun _ => h.most) (fun _ => by omega) (fun _ => h.units) (fun j hj W hb => (h.below hb).callMost) (fun j hj W hb => ?_) (fun j hj W hb => (h.below hb).callUnits)
  · obtain rfl : j = 0 := by omega
    exact hm
  · have hg := h.below hb
    have hmW := hm.below hb
    refine (size_any W m _ 1 m.arr.toList ks (rd_mo1 hmW h1 h2) (arr_one m) (by decide) hg.v hg.k ⟨hg.nv.1, hg.nv.2.1, by have := hg.nv.2.2; omega⟩ (fun V b2 c2 hbV hc hc1 hc2 => ?_)).mono ?_
    · exact recs_MM V b2 c2 m hn (moAt_of hc 0 m (fun i hi => by rw [List.getElem?_append_left (by rw [arr_len]; omega), Nat.zero_add])) m hn (moAt_of hc 8 m (fun i hi => by rw [List.getElem?_append_right (by rw [arr_len]; omega), arr_len, Nat.add_sub_cancel_left])) hc1 hc2
    · rintro en w' ⟨rfl, hb'⟩
      exact ⟨by rw [hsz], hb'⟩
def two {α : Type} (x y : α) (j : Nat) : α := if j = 0 then x else y
set_option maxHeartbeats 1600000 in
theorem check_MN (w : World) (b c : Nat) (m m2 : Mo) (ks ks2 : Nat → Int) (qa qa2 : Option Addr) (qn qc qn2 qc2 : Nat) (qf f qf2 f2 : Nat → St) (hm : MoAt w b 0 m) (hm2 : MoAt w b 8 m2) (hn : m.nm = { data := #[77] }) (hn2 : m2.nm = { data := #[78] }) (h1 : 2 ≤ c) (h2 : c ≤ 9223372036854775807)
    (h : Good w m ks qa qn qc qf f) (hh : Good w m2 ks2 qa2 qn2 qc2 qf2 f2) (sz sz2 : Nat) (hsz : (sz : Int) = sumK ks m.nv) (hsz2 : (sz2 : Int) = sumK ks2 m2.nv) :
    Calls Try.prog 6 #[.slice (some ⟨b, 0, none⟩) 2 c] w fun en w' => ∃ E, en = .returned (.int .i64 E) ∧ Told 2 (two (mostM m.np qn qf m.nb f) (mostM m2.np qn2 qf2 m2.nb f2)) (two sz sz2) (two (unitsM m.np qn qf m.nb f) (unitsM m2.np qn2 qf2 m2.nb f2)) E ∧ Below w.heap.size w w' := by
  have hs := sumK_bd h.k m.nv
  have hv := h.nv
  have hs2 := sumK_bd hh.k m2.nv
  have hv2 := hh.nv
  have tw : ∀ (x y : Nat), x ≤ 1000000 → y ≤ 1000000 → ∀ j, two x y j ≤ 1000000 := fun x y hx hy j => by unfold two; split <;> assumption
  refine check_any w b 0 2 c (two m m2) _ _ _ h1 h2 (by decide) (fun j hj => ?_) (tw _ _ h.most hh.most) (tw _ _ (by omega) (by omega)) (tw _ _ h.units hh.units) (fun j hj W hb => ?_) (fun j hj W hb => ?_) (fun j hj W hb => ?_)
  · rcases (by omega : j = 0 ∨ j = 1) with rfl | rfl
    · exact hm
    · exact hm2
  · rcases (by omega : j = 0 ∨ j = 1) with rfl | rfl
    · exact (h.below hb).callMost
    · exact (hh.below hb).callMost
  · have hmW := hm.below hb
    have hmW2 := hm2.below hb
    have hr := rd_mo2 hmW hmW2 h1 h2
    have ho : ∀ u ∈ m.arr.toList ++ m2.arr.toList, u.oneCell' = true := fun u hu => (List.mem_append.1 hu).elim (arr_one m u) (arr_one m2 u)
    rcases (by omega : j = 0 ∨ j = 1) with rfl | rfl
    · have hg := h.below hb
      refine (size_any W m _ 2 _ ks hr ho (by decide) hg.v hg.k ⟨hg.nv.1, hg.nv.2.1, by have := hg.nv.2.2; omega⟩ (fun V b2 c2 hbV hc hc1 hc2 => ?_)).mono ?_
      · exact recs_MMN V b2 c2 m hn (moAt_of hc 0 m (fun i hi => by rw [List.getElem?_append_left (by rw [arr_len]; omega), Nat.zero_add])) m hn (moAt_of hc 8 m (fun i hi => by rw [List.getElem?_append_right (by rw [arr_len]; omega), arr_len, Nat.add_sub_cancel_left, List.getElem?_append_left (by rw [arr_len]; exact hi)])) m2 hn2
          (moAt_of hc 16 m2 (fun i hi => by rw [List.getElem?_append_right (by rw [arr_len]; omega), arr_len, List.getElem?_append_right (by rw [arr_len]; omega), arr_len, show 16 + i - 8 - 8 = i from by omega])) hc1 hc2
      · rintro en w' ⟨rfl, hb'⟩
        exact ⟨by rw [show two sz sz2 0 = sz from rfl, hsz], hb'⟩
    · have hg := hh.below hb
      refine (size_any W m2 _ 2 _ ks2 hr ho (by decide) hg.v hg.k ⟨hg.nv.1, hg.nv.2.1, by have := hg.nv.2.2; omega⟩ (fun V b2 c2 hbV hc hc1 hc2 => ?_)).mono ?_
      · exact recs_NMN V b2 c2 m2 hn2 (moAt_of hc 0 m2 (fun i hi => by rw [List.getElem?_append_left (by rw [arr_len]; omega), Nat.zero_add])) m hn (moAt_of hc 8 m (fun i hi => by rw [List.getElem?_append_right (by rw [arr_len]; omega), arr_len, Nat.add_sub_cancel_left, List.getElem?_append_left (by rw [arr_len]; exact hi)])) m2 hn2
          (moAt_of hc 16 m2 (fun i hi => by rw [List.getElem?_append_right (by rw [arr_len]; omega), arr_len, List.getElem?_append_right (by rw [arr_len]; omega), arr_len, show 16 + i - 8 - 8 = i from by omega])) hc1 hc2
      · rintro en w' ⟨rfl, hb'⟩
        exact ⟨by rw [show two sz sz2 1 = sz2 from rfl, hsz2], hb'⟩
  · rcases (by omega : j = 0 ∨ j = 1) with rfl | rfl
    · exact (h.below hb).callUnits
    · exact (hh.below hb).callUnits
end Go.Proofs.Ytmidkomdmnncoaa
