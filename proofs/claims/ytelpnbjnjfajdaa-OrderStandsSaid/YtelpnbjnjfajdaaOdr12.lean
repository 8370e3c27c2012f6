/- Order: OrderTells. -/
import Derived.Test.YtelpnbjnjfajdaaOdr11
import Derived.Test.YtelpnbjnjfajdaaOrd
namespace Go.Proofs.Ytelpnbjnjfajdaa
open Go.RowKit Go.Waf Go.Maps
set_option maxRecDepth 100000
set_option linter.unusedVariables false
set_option linter.unusedSimpArgs false

theorem elemU32 : Elem Try.prog 22 23 1 4 := Elem.mk' (z := .int .u32 0) Try.underlying22 (by kernel_rfl) rfl (by decide)
def u32s (l : List Int) : List Value := l.map (Value.int .u32)
theorem u32s_one (l : List Int) : ∀ u ∈ u32s l, u.oneCell' = true := by
  intro u hu; obtain ⟨n, _, rfl⟩ := List.mem_map.1 hu; rfl
theorem u32s_get (l : List Int) (j : Nat) (h : j < l.length) : (u32s l)[j]? = some (.int .u32 (l.getD j 0)) := by simp [u32s, h]
theorem u32s_set (l : List Int) (j : Nat) (x : Int) : (u32s l).set j (.int .u32 x) = u32s (l.set j x) := by simp [u32s, List.map_set]
def In32 (l : List Int) : Prop := ∀ z ∈ l, 0 ≤ z ∧ z ≤ 4294967295
theorem In32.set {l : List Int} (h : In32 l) (j : Nat) (x : Int) (hx : 0 ≤ x ∧ x ≤ 4294967295) : In32 (l.set j x) := fun z hz => by
  rcases List.mem_or_eq_of_mem_set hz with h1 | h1
  · exact h z h1
  · rw [h1]; exact hx
theorem and_in32 (x y : Int) : 0 ≤ bits .and .u32 x y ∧ bits .and .u32 x y ≤ 4294967295 := by
  show 0 ≤ IntKind.u32.wrap _ ∧ IntKind.u32.wrap _ ≤ 4294967295
  rw [u32_mod]; omega
/-- The masks, in a row of the law's own. -/
structure OwnMasks (w0 w : World) (v : Value) (n : Nat) (zs : List Int) : Prop where
  row : w.ownsRow w0.heap.size 23 1 v n (u32s zs)
  len : zs.length = n
  rng : In32 zs
  old : Below w0.heap.size w0 w
theorem OwnMasks.put {w0 w : World} {g n cap : Nat} {zs : List Int} (h : OwnMasks w0 w (.slice (some ⟨g, 0, none⟩) n cap) n zs) (j : Nat) (x : Int) (hx : 0 ≤ x ∧ x ≤ 4294967295) : OwnMasks w0 (w.setCell ⟨g, j, none⟩ (.int .u32 x)) (.slice (some ⟨g, 0, none⟩) n cap) n (zs.set j x) :=
  ⟨by rw [← u32s_set]; exact (h.row.stored j _).1, by rw [List.length_set]; exact h.len, h.rng.set j x hx, h.old.setCell (h.row.lt g rfl).1 _⟩
theorem OwnMasks.drew {w0 w : World} {v : Value} {n : Nat} {zs : List Int} (h : OwnMasks w0 w v n zs) : OwnMasks w0 w.drew v n zs :=
  ⟨(Fr.drew (Fr.refl (fun _ => False) w)).owns h.row (fun _ _ h => h), h.len, h.rng, below_drewN h.old 1⟩

set_option maxHeartbeats 6400000 in
theorem orderTells_any (a0 : Option Addr) (len0 cap0 : Nat) (z0 : List Int) (a1 a2 : Bool) (a3 : Int) (w : World) (w0 : RowOf .u32 w a0 len0 cap0 z0) (w3' : (Lit.int .u32 a3).wf = true) :
    Calls Try.prog 3 #[.slice a0 len0 cap0, .bool a1, .bool a2, .int .u32 a3] w fun e w' => e = .returned (.bool true) ∧ Below w.heap.size w w' := by
  obtain ⟨ys, hys⟩ : ∃ ys, ys = z0.take len0 := ⟨_, rfl⟩
  have hrd := w0.rd
  have hlen := w0.len
  have hwf := w0.wf
  have hbd := w0.bounds
  rw [← hys] at hrd hlen hwf
  have hin : In32 ys := fun z hz => rng_u32 (hwf z hz)
  have h3 := rng_u32 w3'
  have HRD := Lib.hid hrd
  have HIN := Lib.hid hin
  have HLEN := Lib.hid hlen
  have HK := Lib.hid (known_prog w)
  clear hrd hin hlen hwf hys w0 w3'
  go_enter Try.func3, Try.ntmps3
  go_wp2_with fail
  refine HK.out.mono ?_
  rintro e w1 ⟨rfl, hb1⟩
  have HRD1 := Lib.hid (HRD.out.below hb1 (Nat.le_refl _))
  have HB1 := Lib.hid hb1
  have hs1 := hb1.size
  clear hb1
  by_cases hl : 18 < len0
  · go_wp2_with fail
    go_ret
    exact ⟨rfl, HB1.out⟩
  · go_wp2_with (first | (at_builtin; refine app_own _ elemU32 rfl _ _ rfl w.heap.size _ 0 (u32s []) rfl (World.ownsRow_nil _ _ _ _) _ len0 (u32s ys) rfl HRD1.out (u32s_one _) (by simp only [maxLen]; omega) (by omega) (by omega) ?_; intro v3 w3 ho3 hg3))
    have hom : OwnMasks w w3 v3 len0 ys := ⟨by rw [Nat.zero_add] at ho3; exact ho3, HLEN.out, HIN.out, below_of_grown_none HB1.out HB1.out.size hg3⟩
    have HOM := Lib.hid hom
    obtain ⟨va, vc, rfl, x1, x2, x3⟩ := owns_shape hom.row
    unfold maxLen at x2
    have hs3 := hg3.size
    clear hom ho3 hg3
    go_loopw [10] (fun z wr => ∃ (k : Nat) (zs : List Int), k ≤ len0 ∧ z = .int .i64 (k : Int) ∧ OwnMasks w wr (.slice va len0 vc) len0 zs) (fun z _ => len0 - (intOf z).toNat)
    case atStart => exact ⟨0, ys, by omega, rfl, HOM.out⟩
    case round =>
      obtain ⟨k, zs, hk, rfl, hm⟩ := hrel
      obtain ⟨wo, rfl⟩ : ∃ wo : World, wo = wr := ⟨_, rfl⟩
      by_cases hlt : k < len0
      · obtain ⟨g, cap', hvv, hgb, hgs, _, _⟩ := owns_some hm.row (by omega)
        cases hvv
        obtain ⟨x, hx⟩ : ∃ x, x = zs.getD k 0 := ⟨_, rfl⟩
        have hkz : k < zs.length := by rw [hm.len]; exact hlt
        have d1 : wo.cell? ⟨g, k, none⟩ = some (.int .u32 x) := by rw [hm.row.cellAt k (by omega), u32s_get _ _ hkz, hx]
        have f1 := hm.row.frozenAt k
        have HM := Lib.hid hm
        clear hm hx
        have hks := (HLEN.out ▸ hk : k ≤ ys.length)
        obtain ⟨hp0, hp1⟩ := pow_le30 k (by omega)
        cases a1
        · go_wp2_with fail
          go_roundw
          case rel => exact ⟨k + 1, _, by omega, by go_num, HM.out.put k _ (and_in32 _ _)⟩
          case measure => simp [intOf]; omega
        · go_wp2_with fail
          obtain ⟨x2, hx2⟩ : ∃ x2, x2 = bits BinOp.and IntKind.u32 x (bits BinOp.or IntKind.u32 a3 1048576) := ⟨_, rfl⟩
          rw [← hx2]
          have hM2 := HM.out.put k x2 (by rw [hx2]; exact and_in32 _ _)
          obtain ⟨we, hwe⟩ : ∃ we : World, we = (wo.setCell ⟨g, k, none⟩ (.int .u32 x2)).drew := ⟨_, rfl⟩
          have hMe : OwnMasks w we (.slice (some ⟨g, 0, none⟩) len0 vc) len0 (zs.set k x2) := by rw [hwe]; exact hM2.drew
          have e1 : we.cell? ⟨g, k, none⟩ = some (.int .u32 x2) := by rw [hMe.row.cellAt k (by omega), u32s_get _ _ (by rw [List.length_set]; exact hkz), List.getD_eq_getElem?_getD, List.getElem?_set_self hkz]; rfl
          have e2 := hMe.row.frozenAt k
          have HS := Lib.hid (show (fun W : World => W.cell? ⟨g, k, none⟩ = some (.int .u32 x2)) we from e1)
          have HME := Lib.hid hMe
          have HWE := Lib.hid hwe
          clear hM2 hwe hMe hx2
          refine wp_region_till 10 (fun W => W.cell? ⟨g, k, none⟩ = some (.int .u32 x2)) (by as_aux_lemma => kernel_rfl) ?_
          rw [← HWE.out]
          (refine wpAnyT_take (i := 0) (oi := ?_) (v := ?_) ?_ (by as_aux_lemma => kernel_rfl) (by as_aux_lemma => kernel_rfl) (by as_aux_lemma => kernel_rfl) (by as_aux_lemma => kernel_rfl) ?_ (Or.inl ⟨?_, ?_⟩) HS.out ?_; rotate_left 2; (focus (simp only [List.getElem?_toArray, List.getElem?_cons_succ, List.getElem?_cons_zero] <;> rfl)); (focus exact (fun _ _ _ h => h)); (focus rfl); (focus (intro w hSw; (try dsimp only at hSw); go_simp; try (with_reducible rfl))))
          (try simp only [Act.put, List.setIfInBounds_toArray, List.set_cons_zero, List.set_cons_succ])
          (refine wpAnyT_take (i := 1) (oi := ?_) (v := ?_) ?_ (by as_aux_lemma => kernel_rfl) (by as_aux_lemma => kernel_rfl) (by as_aux_lemma => kernel_rfl) (by as_aux_lemma => kernel_rfl) ?_ (Or.inl ⟨?_, ?_⟩) HS.out ?_; rotate_left 2; (focus (simp only [List.getElem?_toArray, List.getElem?_cons_succ, List.getElem?_cons_zero] <;> rfl)); (focus exact (fun _ _ _ h => h)); (focus rfl); (focus (intro w hSw; (try dsimp only at hSw); go_simp; try (with_reducible rfl))))
          (try simp only [Act.put, List.setIfInBounds_toArray, List.set_cons_zero, List.set_cons_succ])
          (refine wpAnyT_take (i := 2) (oi := ?_) (v := ?_) ?_ (by as_aux_lemma => kernel_rfl) (by as_aux_lemma => kernel_rfl) (by as_aux_lemma => kernel_rfl) (by as_aux_lemma => kernel_rfl) ?_ (Or.inl ⟨?_, ?_⟩) HS.out ?_; rotate_left 2; (focus (simp only [List.getElem?_toArray, List.getElem?_cons_succ, List.getElem?_cons_zero] <;> rfl)); (focus exact (fun _ _ _ h => h)); (focus rfl); (focus (intro w hSw; (try dsimp only at hSw); go_simp; try (with_reducible rfl))))
          (try simp only [Act.put, List.setIfInBounds_toArray, List.set_cons_zero, List.set_cons_succ])
          (refine wpAnyT_take (i := 3) (oi := ?_) (v := ?_) ?_ (by as_aux_lemma => kernel_rfl) (by as_aux_lemma => kernel_rfl) (by as_aux_lemma => kernel_rfl) (by as_aux_lemma => kernel_rfl) ?_ (Or.inl ⟨?_, ?_⟩) HS.out ?_; rotate_left 2; (focus (simp only [List.getElem?_toArray, List.getElem?_cons_succ, List.getElem?_cons_zero] <;> rfl)); (focus exact (fun _ _ _ h => h)); (focus rfl); (focus (intro w hSw; (try dsimp only at hSw); go_simp; try (with_reducible rfl))))
          (try simp only [Act.put, List.setIfInBounds_toArray, List.set_cons_zero, List.set_cons_succ])
          (refine wpAnyT_take (i := 4) (oi := ?_) (v := ?_) ?_ (by as_aux_lemma => kernel_rfl) (by as_aux_lemma => kernel_rfl) (by as_aux_lemma => kernel_rfl) (by as_aux_lemma => kernel_rfl) ?_ (Or.inl ⟨?_, ?_⟩) HS.out ?_; rotate_left 2; (focus (simp only [List.getElem?_toArray, List.getElem?_cons_succ, List.getElem?_cons_zero] <;> rfl)); (focus exact (fun _ _ _ h => h)); (focus rfl); (focus (intro w hSw; (try dsimp only at hSw); go_simp; try (with_reducible rfl))))
          (try simp only [Act.put, List.setIfInBounds_toArray, List.set_cons_zero, List.set_cons_succ])
          (refine wpAnyT_take (i := 5) (oi := ?_) (v := ?_) ?_ (by as_aux_lemma => kernel_rfl) (by as_aux_lemma => kernel_rfl) (by as_aux_lemma => kernel_rfl) (by as_aux_lemma => kernel_rfl) ?_ (Or.inl ⟨?_, ?_⟩) HS.out ?_; rotate_left 2; (focus (simp only [List.getElem?_toArray, List.getElem?_cons_succ, List.getElem?_cons_zero] <;> rfl)); (focus exact (fun _ _ _ h => h)); (focus rfl); (focus (intro w hSw; (try dsimp only at hSw); go_simp; try (with_reducible rfl))))
          (try simp only [Act.put, List.setIfInBounds_toArray, List.set_cons_zero, List.set_cons_succ])
          (refine wpAnyT_take (i := 6) (oi := ?_) (v := ?_) ?_ (by as_aux_lemma => kernel_rfl) (by as_aux_lemma => kernel_rfl) (by as_aux_lemma => kernel_rfl) (by as_aux_lemma => kernel_rfl) ?_ (Or.inl ⟨?_, ?_⟩) HS.out ?_; rotate_left 2; (focus (simp only [List.getElem?_toArray, List.getElem?_cons_succ, List.getElem?_cons_zero] <;> rfl)); (focus exact (fun _ _ _ h => h)); (focus rfl); (focus (intro w hSw; (try dsimp only at hSw); go_simp; try (with_reducible rfl))))
          (try simp only [Act.put, List.setIfInBounds_toArray, List.set_cons_zero, List.set_cons_succ])
          (refine wpAnyT_take (i := 7) (oi := ?_) (v := ?_) ?_ (by as_aux_lemma => kernel_rfl) (by as_aux_lemma => kernel_rfl) (by as_aux_lemma => kernel_rfl) (by as_aux_lemma => kernel_rfl) ?_ (Or.inl ⟨?_, ?_⟩) HS.out ?_; rotate_left 2; (focus (simp only [List.getElem?_toArray, List.getElem?_cons_succ, List.getElem?_cons_zero] <;> rfl)); (focus exact (fun _ _ _ h => h)); (focus rfl); (focus (intro w hSw; (try dsimp only at hSw); go_simp; try (with_reducible rfl))))
          (try simp only [Act.put, List.setIfInBounds_toArray, List.set_cons_zero, List.set_cons_succ])
          (refine wpAnyT_take (i := 8) (oi := ?_) (v := ?_) ?_ (by as_aux_lemma => kernel_rfl) (by as_aux_lemma => kernel_rfl) (by as_aux_lemma => kernel_rfl) (by as_aux_lemma => kernel_rfl) ?_ (Or.inl ⟨?_, ?_⟩) HS.out ?_; rotate_left 2; (focus (simp only [List.getElem?_toArray, List.getElem?_cons_succ, List.getElem?_cons_zero] <;> rfl)); (focus exact (fun _ _ _ h => h)); (focus rfl); (focus (intro w hSw; (try dsimp only at hSw); go_simp; try (with_reducible rfl))))
          (try simp only [Act.put, List.setIfInBounds_toArray, List.set_cons_zero, List.set_cons_succ])
          (refine wpAnyT_take (i := 9) (oi := ?_) (v := ?_) ?_ (by as_aux_lemma => kernel_rfl) (by as_aux_lemma => kernel_rfl) (by as_aux_lemma => kernel_rfl) (by as_aux_lemma => kernel_rfl) ?_ (Or.inl ⟨?_, ?_⟩) HS.out ?_; rotate_left 2; (focus (simp only [List.getElem?_toArray, List.getElem?_cons_succ, List.getElem?_cons_zero] <;> rfl)); (focus exact (fun _ _ _ h => h)); (focus rfl); (focus (intro w hSw; (try dsimp only at hSw); go_simp; try (with_reducible rfl))))
          (try simp only [Act.put, List.setIfInBounds_toArray, List.set_cons_zero, List.set_cons_succ])
          (refine wpAnyT_late (i := 10) (oi := ?_) ?_ (by as_aux_lemma => kernel_rfl) (by as_aux_lemma => kernel_rfl) (fun K hK => ?_); rotate_left; (focus (simp only [List.getElem?_toArray, List.getElem?_cons_succ, List.getElem?_cons_zero] <;> rfl)))
          go_simp
          refine hK.out _ _ ?_
          clear hK K
          refine wpAnyT_done (by as_aux_lemma => kernel_rfl) ?_ _
          go_wp2_with fail
          go_roundw
          case rel => exact ⟨k + 1, _, by omega, by go_num, HME.out.put k _ (and_in32 _ _)⟩
          case measure => simp [intOf]; omega
      · obtain rfl : k = len0 := by omega
        obtain rfl := HLEN.out
        have hM1 := made_prog wo (.slice a0 ys.length cap0) ys a2 (by omega) (HRD.out.below hm.old (Nat.le_refl _)) HIN.out
        have HM := Lib.hid hm
        have HM1 := Lib.hid hM1
        clear hm hM1
        go_wp2_with fail
        refine HM1.out.mono ?_
        rintro e w4 ⟨⟨a4, c4, rfl, hp4⟩, hb4⟩
        have hm4 : Rd w4 1 (.slice va zs.length vc) zs.length (u32s zs) := by rw [HM.out.len]; exact (rd_of_owns HM.out.row).below hb4 (Nat.le_refl _)
        have hM2 := made_prog w4 (.slice va zs.length vc) zs a2 (by rw [HM.out.len]; omega) hm4 HM.out.rng
        rw [HM.out.len] at hM2
        have HM2 := Lib.hid hM2
        have HP4 := Lib.hid hp4
        have HB4 := Lib.hid (HM.out.old.trans (hb4.mono HM.out.old.size))
        clear hM2 hm4 hp4 hb4
        go_wp2_with fail
        refine HM2.out.mono ?_
        rintro e w5 ⟨⟨a5, c5, rfl, hp5⟩, hb5⟩
        have HP5 := Lib.hid hp5
        have HP45 := Lib.hid (HP4.out.below hb5 (Nat.le_refl _))
        have HB5 := Lib.hid (HB4.out.trans (hb5.mono HB4.out.size))
        clear hp5 hb5
        go_wp2_with fail
        obtain ⟨w6, hw6⟩ : ∃ w6 : World, w6 = w5.alloc (.cells #[.slice a4 ys.length c4, .slice a5 ys.length c5] 25) := ⟨_, rfl⟩
        change Code.wp _ _ _ _ (w5.alloc (.cells #[.slice a4 ys.length c4, .slice a5 ys.length c5] 25))
        rw [← hw6]
        have hb56 : Below w5.heap.size w5 w6 := by rw [hw6]; exact (Below.refl _ _).alloc (Nat.le_refl _) _
        have hblk : w6.heap[w5.heap.size]? = some (.cells #[.slice a4 ys.length c4, .slice a5 ys.length c5] 25 (0, 0)) := by rw [hw6]; exact heap_alloc_new _ _
        have HMS := Lib.hid (show ∀ j, j < 2 → ∃ (a : Option Addr) (c : Nat) (M : Nat → Md), w6.cell? ⟨w5.heap.size, j, none⟩ = some (.slice a ys.length c) ∧ ModsAt w6 a ys.length c M from fun j hj => by
          match j, hj with
          | 0, _ => exact ⟨a4, c4, _, (cell_of_row w6 _ 0 _ _ _ hblk).trans rfl, HP45.out.below hb56 (Nat.le_refl _)⟩
          | 1, _ => exact ⟨a5, c5, _, (cell_of_row w6 _ 1 _ _ _ hblk).trans rfl, HP5.out.below hb56 (Nat.le_refl _)⟩)
        have HB6 := Lib.hid (HB5.out.trans (hb56.mono HB5.out.size))
        have hs6 : w6.heap.size = w5.heap.size + 1 := by rw [hw6]; simp
        clear hw6 hb56 hblk
        go_loopw [58] (fun z wr => ∃ j : Nat, j ≤ 2 ∧ z = .int .i64 (j : Int) ∧ Below w6.heap.size w6 wr) (fun z _ => 2 - (intOf z).toNat)
        case atStart => exact ⟨0, by omega, rfl, Below.refl _ _⟩
        case round =>
          obtain ⟨j, hj, rfl, hb⟩ := hrel
          obtain ⟨wz, rfl⟩ : ∃ wz : World, wz = wr := ⟨_, rfl⟩
          by_cases hlj : j < 2
          · obtain ⟨a, c, M, hc0, hmo⟩ := HMS.out j hlj
            have d1 := cell_below hb (Nat.le_refl _) hc0
            have hmz := hmo.below hb (Nat.le_refl _)
            have HMZ := Lib.hid hmz
            have HB := Lib.hid hb
            have HO1 := Lib.hid (order_prog wz a ys.length c M hmz)
            obtain ⟨R, hR⟩ : ∃ R, R = ordR M ys.length := ⟨_, rfl⟩
            rw [← hR] at HO1
            have hle := hmz.le
            have hcap := hmz.cap63
            have hjj : (j : Int) < 2 := by omega
            clear hc0 hmo hmz hb
            go_wp2_with fail
            refine HO1.out.mono ?_
            rintro e w7 ⟨⟨v, rfl, hv⟩, hb7⟩
            obtain ⟨va1, vc1, rfl, r1, r2, r3⟩ := rd_shape hv
            unfold maxLen at r2
            have hm7 := HMZ.out.below hb7 (Nat.le_refl _)
            have ho2 := order_ref w7 w7 a ys.length c M hm7
            rw [← hR] at ho2
            have HO2 := Lib.hid ho2
            have HV := Lib.hid hv
            have HM7 := Lib.hid hm7
            have HB7 := Lib.hid (HB.out.trans (hb7.mono HB.out.size))
            clear ho2 hv hm7 hb7 hR
            go_wp2_with fail
            refine HO2.out.mono ?_
            rintro e w8 ⟨⟨v, rfl, hv⟩, hb8⟩
            obtain ⟨va2, vc2, rfl, t1, t2, t3⟩ := rd_shape hv
            unfold maxLen at t2
            have HIS := Lib.hid (ints_same w8 _ _ R.1 (HV.out.below hb8 (Nat.le_refl _)) hv)
            have HM8 := Lib.hid (HM7.out.below hb8 (Nat.le_refl _))
            have HB8 := Lib.hid (HB7.out.trans (hb8.mono HB7.out.size))
            clear hv hb8
            go_wp2_with fail
            refine HIS.out.mono ?_
            rintro e w9 ⟨rfl, hb9⟩
            have HM9 := Lib.hid (HM8.out.below hb9 (Nat.le_refl _))
            have HB9 := Lib.hid (HB8.out.trans (hb9.mono HB8.out.size))
            clear hb9
            go_wp2_with fail
            go_loopw [17] (fun z wy => ∃ i : Nat, i ≤ ys.length ∧ z = .int .i64 (i : Int) ∧ Below w9.heap.size w9 wy) (fun z _ => ys.length - (intOf z).toNat)
            case atStart => exact ⟨0, by omega, rfl, Below.refl _ _⟩
            case round =>
              obtain ⟨i, hi, rfl, hbi⟩ := hrel
              obtain ⟨wy, rfl⟩ : ∃ wy : World, wy = wr := ⟨_, rfl⟩
              by_cases hli : i < ys.length
              · obtain ⟨we, hwe⟩ : ∃ we : World, we = wy.drew := ⟨_, rfl⟩
                have hbe : Below wy.heap.size wy we := by rw [hwe]; exact below_drewN (Below.refl _ wy) 1
                have hbe9 := hbi.trans (hbe.mono hbi.size)
                have hme := HM9.out.below hbe9 (Nat.le_refl _)
                have hsm := hme.small i hli
                obtain ⟨ab, ao, rfl, hcc⟩ := hme.cells (by omega)
                obtain ⟨iv, hr, d0, d1', d2, d3, d4, d5, d6, d7⟩ := hcc i hli
                obtain ⟨nm, hnm⟩ : ∃ nm, nm = (M i).name := ⟨_, rfl⟩
                obtain ⟨L, hL⟩ : ∃ L, L = needsOf (M i).imps := ⟨_, rfl⟩
                rw [← hnm] at d0
                have HN1 := Lib.hid (show Calls Try.prog 11 #[mdV nm iv] we (OwnRet we.heap.size 9 1 L.length (strs L) we) from by rw [hL]; exact needs_prog we nm iv (M i).imps hsm hr)
                have HN2 := Lib.hid (show ∀ w5 : World, Below we.heap.size we w5 → Calls Try.prog 12 #[mdV nm iv] w5 (OwnRet w5.heap.size 9 1 L.length (strs L) w5) from fun w5 hb => by rw [hL]; exact needs_ref _ nm iv (M i).imps hsm (hr.below hb (Nat.le_refl _)))
                have HS := Lib.hid (show (fun W => W.cell? ⟨ab, ao + i * 8, none⟩ = some (.string nm) ∧ W.cell? ⟨ab, ao + i * 8 + 1, none⟩ = some (iv) ∧ W.cell? ⟨ab, ao + i * 8 + 2, none⟩ = some (.slice none 0 0) ∧ W.cell? ⟨ab, ao + i * 8 + 3, none⟩ = some (.slice none 0 0) ∧ W.cell? ⟨ab, ao + i * 8 + 4, none⟩ = some (.slice none 0 0) ∧ W.cell? ⟨ab, ao + i * 8 + 5, none⟩ = some (.slice none 0 0) ∧ W.cell? ⟨ab, ao + i * 8 + 6, none⟩ = some (.slice none 0 0) ∧ W.cell? ⟨ab, ao + i * 8 + 7, none⟩ = some (.slice none 0 0)) we from ⟨d0, d1', d2, d3, d4, d5, d6, d7⟩)
                have HKEEP := Lib.hid (show ∀ w5 : World, Below we.heap.size we w5 → (fun W => W.cell? ⟨ab, ao + i * 8, none⟩ = some (.string nm) ∧ W.cell? ⟨ab, ao + i * 8 + 1, none⟩ = some (iv) ∧ W.cell? ⟨ab, ao + i * 8 + 2, none⟩ = some (.slice none 0 0) ∧ W.cell? ⟨ab, ao + i * 8 + 3, none⟩ = some (.slice none 0 0) ∧ W.cell? ⟨ab, ao + i * 8 + 4, none⟩ = some (.slice none 0 0) ∧ W.cell? ⟨ab, ao + i * 8 + 5, none⟩ = some (.slice none 0 0) ∧ W.cell? ⟨ab, ao + i * 8 + 6, none⟩ = some (.slice none 0 0) ∧ W.cell? ⟨ab, ao + i * 8 + 7, none⟩ = some (.slice none 0 0)) w5 from fun w5 hb => ⟨cell_below hb (Nat.le_refl _) d0, cell_below hb (Nat.le_refl _) d1', cell_below hb (Nat.le_refl _) d2, cell_below hb (Nat.le_refl _) d3, cell_below hb (Nat.le_refl _) d4, cell_below hb (Nat.le_refl _) d5, cell_below hb (Nat.le_refl _) d6, cell_below hb (Nat.le_refl _) d7⟩)
                have HWE := Lib.hid hwe
                have HBE := Lib.hid hbe9
                clear hbe hbe9 hme hcc hr d0 d1' d2 d3 d4 d5 d6 d7 hnm hL hwe hbi
                go_wp2_with fail
                refine wp_region_till 9 (fun W => W.cell? ⟨ab, ao + i * 8, none⟩ = some (.string nm) ∧ W.cell? ⟨ab, ao + i * 8 + 1, none⟩ = some (iv) ∧ W.cell? ⟨ab, ao + i * 8 + 2, none⟩ = some (.slice none 0 0) ∧ W.cell? ⟨ab, ao + i * 8 + 3, none⟩ = some (.slice none 0 0) ∧ W.cell? ⟨ab, ao + i * 8 + 4, none⟩ = some (.slice none 0 0) ∧ W.cell? ⟨ab, ao + i * 8 + 5, none⟩ = some (.slice none 0 0) ∧ W.cell? ⟨ab, ao + i * 8 + 6, none⟩ = some (.slice none 0 0) ∧ W.cell? ⟨ab, ao + i * 8 + 7, none⟩ = some (.slice none 0 0)) (by as_aux_lemma => kernel_rfl) ?_
                rw [← HWE.out]
                (refine wpAnyT_take (i := 0) (oi := ?_) (v := ?_) ?_ (by as_aux_lemma => kernel_rfl) (by as_aux_lemma => kernel_rfl) (by as_aux_lemma => kernel_rfl) (by as_aux_lemma => kernel_rfl) ?_ (Or.inl ⟨?_, ?_⟩) HS.out ?_; rotate_left 2; (focus (simp only [List.getElem?_toArray, List.getElem?_cons_succ, List.getElem?_cons_zero] <;> rfl)); (focus exact (fun _ _ _ h => h)); (focus rfl); (focus (intro w hSw; (try dsimp only at hSw); go_simp; try (with_reducible rfl))))
                (try simp only [Act.put, List.setIfInBounds_toArray, List.set_cons_zero, List.set_cons_succ])
                (refine wpAnyT_take (i := 1) (oi := ?_) (v := ?_) ?_ (by as_aux_lemma => kernel_rfl) (by as_aux_lemma => kernel_rfl) (by as_aux_lemma => kernel_rfl) (by as_aux_lemma => kernel_rfl) ?_ (Or.inl ⟨?_, ?_⟩) HS.out ?_; rotate_left 2; (focus (simp only [List.getElem?_toArray, List.getElem?_cons_succ, List.getElem?_cons_zero] <;> rfl)); (focus exact (fun _ _ _ h => h)); (focus rfl); (focus (intro w hSw; (try dsimp only at hSw); go_simp; try (with_reducible rfl))))
                (try simp only [Act.put, List.setIfInBounds_toArray, List.set_cons_zero, List.set_cons_succ])
                (refine wpAnyT_take (i := 2) (oi := ?_) (v := ?_) ?_ (by as_aux_lemma => kernel_rfl) (by as_aux_lemma => kernel_rfl) (by as_aux_lemma => kernel_rfl) (by as_aux_lemma => kernel_rfl) ?_ (Or.inl ⟨?_, ?_⟩) HS.out ?_; rotate_left 2; (focus (simp only [List.getElem?_toArray, List.getElem?_cons_succ, List.getElem?_cons_zero] <;> rfl)); (focus exact (fun _ _ _ h => h)); (focus rfl); (focus (intro w hSw; (try dsimp only at hSw); go_simp; try (with_reducible rfl))))
                (try simp only [Act.put, List.setIfInBounds_toArray, List.set_cons_zero, List.set_cons_succ])
                (refine wpAnyT_take (i := 3) (oi := ?_) (v := ?_) ?_ (by as_aux_lemma => kernel_rfl) (by as_aux_lemma => kernel_rfl) (by as_aux_lemma => kernel_rfl) (by as_aux_lemma => kernel_rfl) ?_ (Or.inl ⟨?_, ?_⟩) HS.out ?_; rotate_left 2; (focus (simp only [List.getElem?_toArray, List.getElem?_cons_succ, List.getElem?_cons_zero] <;> rfl)); (focus exact (fun _ _ _ h => h)); (focus rfl); (focus (intro w hSw; (try dsimp only at hSw); go_simp; try (with_reducible rfl))))
                (try simp only [Act.put, List.setIfInBounds_toArray, List.set_cons_zero, List.set_cons_succ])
                (refine wpAnyT_take (i := 5) (oi := ?_) (v := ?_) ?_ (by as_aux_lemma => kernel_rfl) (by as_aux_lemma => kernel_rfl) (by as_aux_lemma => kernel_rfl) (by as_aux_lemma => kernel_rfl) ?_ (Or.inl ⟨?_, ?_⟩) HS.out ?_; rotate_left 2; (focus (simp only [List.getElem?_toArray, List.getElem?_cons_succ, List.getElem?_cons_zero] <;> rfl)); (focus exact (fun _ _ _ h => h)); (focus rfl); (focus (intro w hSw; (try dsimp only at hSw); go_simp; try (with_reducible rfl))))
                (try simp only [Act.put, List.setIfInBounds_toArray, List.set_cons_zero, List.set_cons_succ])
                (refine wpAnyT_take (i := 6) (oi := ?_) (v := ?_) ?_ (by as_aux_lemma => kernel_rfl) (by as_aux_lemma => kernel_rfl) (by as_aux_lemma => kernel_rfl) (by as_aux_lemma => kernel_rfl) ?_ (Or.inl ⟨?_, ?_⟩) HS.out ?_; rotate_left 2; (focus (simp only [List.getElem?_toArray, List.getElem?_cons_succ, List.getElem?_cons_zero] <;> rfl)); (focus exact (fun _ _ _ h => h)); (focus rfl); (focus (intro w hSw; (try dsimp only at hSw); go_simp; try (with_reducible rfl))))
                (try simp only [Act.put, List.setIfInBounds_toArray, List.set_cons_zero, List.set_cons_succ])
                (refine wpAnyT_take (i := 7) (oi := ?_) (v := ?_) ?_ (by as_aux_lemma => kernel_rfl) (by as_aux_lemma => kernel_rfl) (by as_aux_lemma => kernel_rfl) (by as_aux_lemma => kernel_rfl) ?_ (Or.inl ⟨?_, ?_⟩) HS.out ?_; rotate_left 2; (focus (simp only [List.getElem?_toArray, List.getElem?_cons_succ, List.getElem?_cons_zero] <;> rfl)); (focus exact (fun _ _ _ h => h)); (focus rfl); (focus (intro w hSw; (try dsimp only at hSw); go_simp; try (with_reducible rfl))))
                (try simp only [Act.put, List.setIfInBounds_toArray, List.set_cons_zero, List.set_cons_succ])
                (refine wpAnyT_take (i := 8) (oi := ?_) (v := ?_) ?_ (by as_aux_lemma => kernel_rfl) (by as_aux_lemma => kernel_rfl) (by as_aux_lemma => kernel_rfl) (by as_aux_lemma => kernel_rfl) ?_ (Or.inl ⟨?_, ?_⟩) HS.out ?_; rotate_left 2; (focus (simp only [List.getElem?_toArray, List.getElem?_cons_succ, List.getElem?_cons_zero] <;> rfl)); (focus exact (fun _ _ _ h => h)); (focus rfl); (focus (intro w hSw; (try dsimp only at hSw); go_simp; try (with_reducible rfl))))
                (try simp only [Act.put, List.setIfInBounds_toArray, List.set_cons_zero, List.set_cons_succ])
                (refine wpAnyT_one (i := 4) (oi := ?_) ?_ (by as_aux_lemma => kernel_rfl) (fun K hK => ?_); rotate_left; (focus (simp only [List.getElem?_toArray, List.getElem?_cons_succ, List.getElem?_cons_zero] <;> rfl)))
                go_simp
                refine HN1.out.mono ?_
                rintro e w5 ⟨v5, rfl, hrow5, hb5⟩
                refine hK.out _ _ (HKEEP.out _ hb5) ?_
                clear hK K
                (try simp only [Act.put, List.setIfInBounds_toArray, List.set_cons_zero, List.set_cons_succ])
                (refine wpAnyT_late (i := 9) (oi := ?_) ?_ (by as_aux_lemma => kernel_rfl) (by as_aux_lemma => kernel_rfl) (fun K hK => ?_); rotate_left; (focus (simp only [List.getElem?_toArray, List.getElem?_cons_succ, List.getElem?_cons_zero] <;> rfl)))
                go_simp
                refine (HN2.out _ hb5).mono ?_
                rintro e w6 ⟨v6, rfl, hrow6, hb6⟩
                refine hK.out _ _ ?_
                clear hK K
                (try simp only [Act.put, List.setIfInBounds_toArray, List.set_cons_zero, List.set_cons_succ])
                (refine wpAnyT_late (i := 10) (oi := ?_) ?_ (by as_aux_lemma => kernel_rfl) (by as_aux_lemma => kernel_rfl) (fun K hK => ?_); rotate_left; (focus (simp only [List.getElem?_toArray, List.getElem?_cons_succ, List.getElem?_cons_zero] <;> rfl)))
                go_simp
                refine (strs_same w6 v5 v6 L ((rd_of_owns hrow5).below hb6 (Nat.le_refl _)) (rd_of_owns hrow6)).mono ?_
                rintro e w7 ⟨rfl, hb7⟩
                refine hK.out _ _ ?_
                clear hK K
                (try simp only [Act.put, List.setIfInBounds_toArray, List.set_cons_zero, List.set_cons_succ])
                (refine wpAnyT_late (i := 11) (oi := ?_) ?_ (by as_aux_lemma => kernel_rfl) (by as_aux_lemma => kernel_rfl) (fun K hK => ?_); rotate_left; (focus (simp only [List.getElem?_toArray, List.getElem?_cons_succ, List.getElem?_cons_zero] <;> rfl)))
                go_simp
                refine hK.out _ _ ?_
                clear hK K
                refine wpAnyT_done (by as_aux_lemma => kernel_rfl) ?_ _
                go_wp2_with fail
                go_roundw
                case rel => exact ⟨i + 1, by omega, by go_num, HBE.out.trans ((hb5.trans ((hb6.trans (hb7.mono hb6.size)).mono hb5.size)).mono HBE.out.size)⟩
                case measure => simp [intOf]; omega
              · obtain rfl : i = ys.length := by omega
                have HBI := Lib.hid (HB9.out.trans (hbi.mono HB9.out.size))
                clear hbi
                go_wp2_with fail
                go_roundw
                case rel => exact ⟨j + 1, by omega, by go_num, HBI.out⟩
                case measure => simp [intOf]; omega
          · obtain rfl : j = 2 := by omega
            have HBB := Lib.hid (HB6.out.trans (hb.mono HB6.out.size))
            clear hb
            go_wp2_with fail
            go_ret
            exact ⟨rfl, HBB.out⟩
end Go.Proofs.Ytelpnbjnjfajdaa
