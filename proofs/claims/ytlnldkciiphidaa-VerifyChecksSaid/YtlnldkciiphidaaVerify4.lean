/- Contracts of moves, effect, Place; of the walk's reach. -/
import Derived.Test.YtlnldkciiphidaaHeights
import Derived.Maps.OwnSet
import Derived.Laws.OwnMore
namespace Go.Proofs.Ytlnldkciiphidaa
open Go.RowKit Go.Waf
set_option maxRecDepth 100000
set_option linter.unusedVariables false

theorem elemInt : Elem Try.prog 31 3 1 8 := Elem.mk' (z := .int .i64 0) Try.underlying31 (by kernel_rfl) rfl (by decide)
def ints (xs : List Int) : List Value := xs.map (Value.int .i64)
theorem one_ints (xs : List Int) : ∀ u ∈ ints xs, u.oneCell' = true := by
  intro u hu; obtain ⟨n, _, rfl⟩ := List.mem_map.1 hu; rfl
theorem ints_append (xs ys : List Int) : ints (xs ++ ys) = ints xs ++ ints ys := List.map_append
theorem ints_length (xs : List Int) : (ints xs).length = xs.length := List.length_map ..
theorem ints_get (xs : List Int) (j : Nat) (h : j < xs.length) : (ints xs)[j]? = some (.int .i64 (xs.getD j 0)) := by simp [ints, h]
theorem ints_set (xs : List Int) (j : Nat) (u : Int) : (ints xs).set j (.int .i64 u) = ints (xs.set j u) := by simp [ints, List.map_set]

theorem op34 {op : Int} (h : 0 ≤ op ∧ op < 34) : op = 0 ∨ op = 1 ∨ op = 2 ∨ op = 3 ∨ op = 4 ∨ op = 5 ∨ op = 6 ∨ op = 7 ∨ op = 8 ∨ op = 9 ∨ op = 10 ∨ op = 11 ∨ op = 12 ∨ op = 13 ∨ op = 14 ∨ op = 15 ∨ op = 16 ∨ op = 17 ∨ op = 18 ∨ op = 19 ∨ op = 20 ∨ op = 21 ∨ op = 22 ∨ op = 23 ∨ op = 24 ∨ op = 25 ∨ op = 26 ∨ op = 27 ∨ op = 28 ∨ op = 29 ∨ op = 30 ∨ op = 31 ∨ op = 32 ∨ op = 33 := by omega
set_option maxHeartbeats 3200000 in
theorem moves_any (op : Int) (h : 0 ≤ op ∧ op < 34) (w : World) : Calls Try.prog 24 #[.int .i64 op] w fun e w' => e = .returned (.tuple #[.int .i64 (takesC op), .int .i64 (leavesC op)]) ∧ w = w' := by
  rcases op34 h with rfl | rfl | rfl | rfl | rfl | rfl | rfl | rfl | rfl | rfl | rfl | rfl | rfl | rfl | rfl | rfl | rfl | rfl | rfl | rfl | rfl | rfl | rfl | rfl | rfl | rfl | rfl | rfl | rfl | rfl | rfl | rfl | rfl | rfl
  all_goals
    clear h
    go_enter Try.func24, Try.ntmps24
    go_wp2_with fail
    go_ret2
    exact ⟨rfl, rfl⟩
set_option maxHeartbeats 3200000 in
theorem effect_any (op : Int) (h : 0 ≤ op ∧ op < 34) (w : World) : Calls Try.prog 21 #[.int .i64 op] w fun e w' => e = .returned (.tuple #[.int .i64 (takesC op), .int .i64 (leavesC op)]) ∧ w = w' := by
  rcases op34 h with rfl | rfl | rfl | rfl | rfl | rfl | rfl | rfl | rfl | rfl | rfl | rfl | rfl | rfl | rfl | rfl | rfl | rfl | rfl | rfl | rfl | rfl | rfl | rfl | rfl | rfl | rfl | rfl | rfl | rfl | rfl | rfl | rfl | rfl
  all_goals
    clear h
    go_enter Try.func21, Try.ntmps21
    go_wp2_with fail
    go_ret2
    exact ⟨rfl, rfl⟩

/-! ### The map and the function that it is -/
open Go.Maps (Keyed IsMap int_keyed keyOf_int_mk has_put_same has_put_other atKey_put_same atKey_put_other)
theorem lawI : Keyed Try.prog 3 := int_keyed Try.underlying3
theorem zeroI (w : World) : (zeroValue 3).run Try.prog w = .ok (.int .i64 0) w := by kernel_rfl
def keyL (i : Nat) : Lit := .int .i64 (i : Int)
structure MapIs (D : DataW Unit) (H : Nat → Int) : Prop where
  isMap : IsMap D
  has : ∀ i, Maps.has D (keyL i) = decide (0 ≤ H i)
  at_ : ∀ i, 0 ≤ H i → D.atKey (keyL i) (.lit (.int .i64 0)) = .lit (.int .i64 (H i))
theorem keyL_ne {i t : Nat} (h : i ≠ t) : keyL i ≠ keyL t := by
  unfold keyL; intro e
  simp only [Lit.int.injEq, true_and] at e
  omega
theorem MapIs.put {D : DataW Unit} {H : Nat → Int} (h : MapIs D H) (t : Nat) (v : Int) (hv : 0 ≤ v) : MapIs (D.put (keyL t) (.lit (.int .i64 v))) (upd H t v) := by
  have hk : WideAt.IsKeyLit (keyL t) := trivial
  refine ⟨h.isMap.put _ _, fun i => ?_, fun i hi => ?_⟩
  · by_cases e : i = t
    · subst e; rw [has_put_same h.isMap hk, upd_same]; simp [hv]
    · rw [has_put_other (keyL_ne e), upd_other _ _ _ e, h.has]
  · by_cases e : i = t
    · subst e; rw [atKey_put_same h.isMap hk, upd_same]
    · rw [upd_other _ _ _ e] at hi ⊢
      rw [atKey_put_other (keyL_ne e)]; exact h.at_ i hi
theorem mapIs_start : MapIs (.map []) (fun _ => -1) := ⟨⟨[], rfl⟩, fun i => by simp [Maps.has], fun i hi => by simp at hi⟩
def lits (L : List Nat) : List Int := L.map fun i : Nat => (i : Int)

/-- The walk's own block q: its code, its map mb, what is to be gone on from. -/
structure WalkAt (w0 w : World) (q mb : Nat) (lv tv : Value) (n : Nat) (H : Nat → Int) (L : List Nat) : Prop where
  blk : w.heap[q]? = some (.cells #[lv, .map (some mb), tv] 45 (0, 0))
  map : ∃ D, w.ownsMap Try.prog 3 (plainElem (H := Unit) Try.prog 3) mb (cnt H n) D ∧ MapIs D H
  row : w.ownsRow w0.heap.size 3 1 tv L.length (ints (lits L))
  bq : w0.heap.size ≤ q
  bm : w0.heap.size ≤ mb
  ne : q ≠ mb
  tq : tv.ownBlock ≠ some q
  tm : tv.ownBlock ≠ some mb
  old : Below w0.heap.size w0 w
theorem WalkAt.keep {w0 w w' : World} {q mb : Nat} {lv tv : Value} {n : Nat} {H : Nat → Int} {L : List Nat} (h : WalkAt w0 w q mb lv tv n H L) (hb : Below w.heap.size w w') : WalkAt w0 w' q mb lv tv n H L := by
  obtain ⟨D, h1, h2⟩ := h.map
  have hg : w.grownBy w' none := ⟨hb.os, hb.tape, hb.output, hb.size, fun k hk _ => hb.block k hk⟩
  refine ⟨blk_grown h.blk hg (by simp), ⟨D, h1.kept hg (by simp), h2⟩, h.row.kept hg (Classical.em _), h.bq, h.bm, h.ne, h.tq, h.tm, h.old.trans (hb.mono h.old.size)⟩

/-- What reach leaves: it can't be, or it is noted. -/
def ReachPost (V N : Nat → Int) (w0 w : World) (q mb : Nat) (lv tv : Value) (n : Nat) (H : Nat → Int) (L : List Nat) (t : Nat) (v : Int) (e : Ending) (w' : World) : Prop :=
  Below w0.heap.size w0 w' ∧ Fr (fun k => k = q ∨ k = mb ∨ tv.ownBlock = some k) w w' ∧ ((e = .returned (.bool false) ∧ ¬ Fine V N ∧ (1000 < v ∨ 0 ≤ H t)) ∨ ∃ H' L' tv', e = .returned (.bool true) ∧ WalkAt w0 w' q mb lv tv' n H' L' ∧ Known V N H' ∧ (∀ x, But V N H L x → But V N H' L' x) ∧ (∀ i, 0 ≤ H i → H' i = H i) ∧ H' t = v ∧ 2 * (n - cnt H' n) + L'.length ≤ 2 * (n - cnt H n) + L.length ∧ (∀ i ∈ L', i ∈ L ∨ i = t))

set_option maxHeartbeats 1600000 in
theorem reach_any (V N : Nat → Int) (w0 w : World) (q mb : Nat) (lv tv : Value) (n : Nat) (hn : n ≤ 100000) (H : Nat → Int) (L : List Nat) (hL : L.length ≤ 200000) (hW : WalkAt w0 w q mb lv tv n H L) (hK : Known V N H) (t : Nat) (v : Int) (ht : t < n) (hv : Hi V N t v) (hv2 : v ≤ 100000) :
    Calls Try.prog 19 #[.pointer (some ⟨q, 0, none⟩), .int .i64 t, .int .i64 v] w (ReachPost V N w0 w q mb lv tv n H L t v) := by
  have hv0 := hv.nonneg
  have hsz := hW.old.size
  have hqm := hW.ne
  have hcn := cnt_le H n
  obtain ⟨D, hown, hD⟩ := hW.map
  obtain ⟨ta, tc, rfl, tc1, tc2, tc3⟩ := owns_shape hW.row
  have c1 : w.cell? ⟨q, 1, none⟩ = some (.map (some mb)) := by rw [cell_of_row w q 1 _ _ _ hW.blk]; rfl
  have c2 : w.cell? ⟨q, 2, none⟩ = some (.slice ta L.length tc) := by rw [cell_of_row w q 2 _ _ _ hW.blk]; rfl
  have hkey : keyOf Try.prog 3 (.int .i64 (t : Int)) = some (keyL t) := keyOf_int_mk Try.underlying3 (WalkArith.wf_i64 (by omega))
  have hat := hD.at_ t
  have hhas := hD.has t
  obtain ⟨x, hx⟩ : ∃ x, x = H t := ⟨_, rfl⟩
  rw [← hx] at hat hhas
  have HW := Lib.hid hW
  have HK := Lib.hid hK
  have HV := Lib.hid hv
  have HO := Lib.hid hown
  have HD := Lib.hid hD
  have HKEY := Lib.hid hkey
  have HX := Lib.hid hx
  have HAT := Lib.hid hat
  have HQM := Lib.hid hqm
  have HC := Lib.hid hcn
  clear hW hK hv hown hD hkey hx hat hqm hcn
  by_cases hhi : 1000 < v
  · have HH := Lib.hid hhas
    clear hhas
    go_enter Try.func19, Try.ntmps19
    go_wp2_with (at_lookup; refine wpList_lookup_own_ok_int _ rfl _ _ 43 rfl 3 3 .i64 lawI Try.underlying43 Try.underlying3 (zeroI _) mb _ _ rfl HO.out _ _ rfl HKEY.out ?_; intro c _ _)
    go_ret
    exact ⟨HW.out.old, Fr.refl _ _, .inl ⟨rfl, not_fine_high HV.out hhi, .inl hhi⟩⟩
  by_cases hs : 0 ≤ x
  · have hh : Maps.has D (keyL t) = true := by rw [hhas]; simp [hs]
    have HA := Lib.hid (HAT.out hs)
    have HH := Lib.hid hh
    clear hhas hh
    by_cases he : x = v
    · have qe : (x == v) = true := by simp [he]
      go_enter Try.func19, Try.ntmps19
      go_wp2_with (first | (at_lookup; refine wpList_lookup_own_ok_int _ rfl _ _ 43 rfl 3 3 .i64 lawI Try.underlying43 Try.underlying3 (zeroI _) mb _ _ rfl HO.out _ _ rfl HKEY.out ?_; rw [HH.out]; intro c _ _) | (at_lookup; refine wpList_lookup_own_int _ rfl _ _ 43 rfl 3 3 .i64 lawI Try.underlying43 Try.underlying3 (zeroI _) mb _ _ rfl HO.out _ _ rfl HKEY.out ?_; intro c2 hc2 _; rw [HA.out] at hc2; simp only [DataW.lit.injEq, Lit.int.injEq, true_and] at hc2; subst hc2))
      go_ret
      exact ⟨HW.out.old, Fr.refl _ _, .inr ⟨H, L, _, rfl, HW.out, HK.out, fun _ h => h, fun _ _ => rfl, by rw [← HX.out, he], Nat.le_refl _, fun _ h => .inl h⟩⟩
    · have qe : (x == v) = false := by simp [he]
      go_enter Try.func19, Try.ntmps19
      go_wp2_with (first | (at_lookup; refine wpList_lookup_own_ok_int _ rfl _ _ 43 rfl 3 3 .i64 lawI Try.underlying43 Try.underlying3 (zeroI _) mb _ _ rfl HO.out _ _ rfl HKEY.out ?_; rw [HH.out]; intro c _ _) | (at_lookup; refine wpList_lookup_own_int _ rfl _ _ 43 rfl 3 3 .i64 lawI Try.underlying43 Try.underlying3 (zeroI _) mb _ _ rfl HO.out _ _ rfl HKEY.out ?_; intro c2 hc2 _; rw [HA.out] at hc2; simp only [DataW.lit.injEq, Lit.int.injEq, true_and] at hc2; subst hc2))
      go_ret
      exact ⟨HW.out.old, Fr.refl _ _, .inl ⟨rfl, not_fine_two HK.out HV.out (by rw [← HX.out]; exact hs) (by rw [← HX.out]; exact he), .inr (by rw [← HX.out]; exact hs)⟩⟩
  · have hh : Maps.has D (keyL t) = false := by rw [hhas]; simp [hs]
    have HH := Lib.hid hh
    clear hhas hh
    have hblk := HW.out.blk
    have hrow := HW.out.row
    have hrow' : w.ownsRow w0.heap.size 3 1 (.slice ta L.length tc) L.length (ints (lits L)) := hrow
    have HB := Lib.hid hblk
    have HR := Lib.hid hrow'
    clear hblk hrow hrow'
    go_enter Try.func19, Try.ntmps19
    go_wp2_with (first | (at_lookup; refine wpList_lookup_own_ok_int _ rfl _ _ 43 rfl 3 3 .i64 lawI Try.underlying43 Try.underlying3 (zeroI _) mb _ _ rfl HO.out _ _ rfl HKEY.out ?_; rw [HH.out]; intro c _ _) | (at_mapUpdate; refine wpList_mapUpdate_own _ rfl _ _ _ 43 rfl 3 3 lawI Try.underlying43 _ mb _ _ rfl HO.out (by have := HC.out; unfold maxLen; omega) _ _ _ rfl rfl HKEY.out _ [] (plainElem_int Try.underlying3 (WalkArith.wf_i64 (by omega))) ?_; intro w1 hown1 hg1; have hb1 := blk_grown HB.out hg1 (fun e => HQM.out (Option.some.inj e).symm); have d1 : w1.cell? ⟨q, 2, none⟩ = some (.slice ta L.length tc) := by { rw [cell_of_row w1 q 2 _ _ _ hb1]; rfl }; have hr1 := (HR.out.kept hg1 (.inr HW.out.tm)).alloc (.cells #[.int .i64 (t : Int)] 3); have HB1 := Lib.hid hb1; have HR1 := Lib.hid hr1; have HO1 := Lib.hid hown1; have HG1 := Lib.hid hg1; clear hb1 hr1 hown1 hg1) | (at_builtin; refine app_own2 _ elemInt rfl _ _ rfl w0.heap.size _ L.length (ints (lits L)) rfl HR1.out _ 1 (ints [(t : Int)]) rfl (rd_new _ _ _ _ _ (by simp) (by simp [maxLen])) (one_ints _) (by simp only [maxLen]; omega) (by omega) (by have := HG1.out.size; simp; omega) ?_; intro v2 w2 hown2 hg2 hfr2; obtain ⟨h2, cap2, rfl, _, _, _, _⟩ := owns_some hown2 (by omega); have hb2 := blk_grown (blk_alloc HB1.out _) hg2 HW.out.tq; have d2 : w2.cell? ⟨q, 2, none⟩ = some (.slice ta L.length tc) := by { rw [cell_of_row w2 q 2 _ _ _ hb2]; rfl }; have f2 := frozen_of_row w2 q 2 _ _ hb2))
    go_ret
    have hx0 : H t < 0 := by rw [← HX.out]; omega
    have hc : cnt (upd H t v) n = cnt H n + 1 := by rw [cnt_upd H t v hx0 hv0, if_pos ht]
    have hmw : mb < w1.heap.size := HO1.out.lt
    have hqw : q < w1.heap.size := (Array.getElem?_eq_some_iff.1 HB1.out).1
    have htq : (Value.slice (some ⟨h2, 0, none⟩) (L.length + 1) cap2).ownBlock ≠ some q := by
      intro e
      rcases hfr2 _ e with h | h
      · exact HW.out.tq h
      · simp at h; omega
    have htm : (Value.slice (some ⟨h2, 0, none⟩) (L.length + 1) cap2).ownBlock ≠ some mb := by
      intro e
      rcases hfr2 _ e with h | h
      · exact HW.out.tm h
      · simp at h; omega
    have o1 := HW.out.old.grown HG1.out hsz (fun k hk => by cases hk; exact HW.out.bm)
    have o2 := below_of_grown (o1.alloc o1.size (.cells #[.int .i64 (t : Int)] 3)) (by have := o1.size; simp; omega) HR1.out (Nat.le_refl _) rfl hg2
    have hold := o2.setCell (p := ⟨q, 2, none⟩) HW.out.bq (Value.slice (some ⟨h2, 0, none⟩) (L.length + 1) cap2)
    have hfr : Fr (fun k => k = q ∨ k = mb ∨ (Value.slice ta L.length tc).ownBlock = some k) w (w2.setCell ⟨q, 2, none⟩ (Value.slice (some ⟨h2, 0, none⟩) (L.length + 1) cap2)) :=
      (((Fr.of_grown (F := fun k => k = q ∨ k = mb ∨ (Value.slice ta L.length tc).ownBlock = some k) HG1.out (fun k hk => by cases hk; exact .inr (.inl rfl))).alloc _).trans (Fr.of_grown (F := fun k => k = q ∨ k = mb ∨ (Value.slice ta L.length tc).ownBlock = some k) hg2 (fun k hk => .inr (.inr hk))) (fun _ _ h => h)).setCell (.inr (.inl rfl)) _
    refine ⟨hold, hfr, .inr ⟨upd H t v, L ++ [t], _, rfl, ⟨?_, ⟨_, ?_, HD.out.put t v hv0⟩, ?_, HW.out.bq, HW.out.bm, HW.out.ne, htq, htm, hold⟩, HK.out.put HV.out hx0 (by omega), fun _ h => h.put hx0, fun i hi => upd_other _ _ _ (fun e => by rw [e] at hi; omega), upd_same _ _ _, ?_, ?_⟩⟩
    · rw [heap_setCell_same w2 q 2 _ _ _ hb2]; rfl
    · rw [hc]
      exact ((HO1.out.alloc _).kept hg2 (fun e => HW.out.tm e.symm)).setCell (fun e => HQM.out e.symm) _
    · have e1 : lits (L ++ [t]) = lits L ++ [(t : Int)] := by simp [lits]
      rw [e1, ints_append, List.length_append]
      exact owns_set_other hown2 _ _ htq
    · have := cnt_le (upd H t v) n
      simp; omega
    · intro i hi
      rcases List.mem_append.1 hi with h | h
      · exact .inl h
      · exact .inr (by simpa using h)
end Go.Proofs.Ytlnldkciiphidaa
