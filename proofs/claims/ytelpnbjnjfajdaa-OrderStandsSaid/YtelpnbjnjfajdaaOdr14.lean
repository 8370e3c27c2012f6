/- Order: OrderStands. -/
import Derived.Test.YtelpnbjnjfajdaaOdr13
namespace Go.Proofs.Ytelpnbjnjfajdaa
open Go.RowKit Go.Waf Go.Maps
set_option maxRecDepth 100000
set_option linter.unusedVariables false
set_option linter.unusedSimpArgs false

theorem zeroB (w : World) : (zeroValue 4).run Try.prog w = .ok (.bool false) w := by kernel_rfl
theorem plainElem_bool_inv {e : TypeId} (he : Try.prog.underlying e = some .bool) {v : Value} {z : DataW Unit × List MemPlace} (h : plainElem Try.prog e v = some z) : ∃ a, v = .bool a ∧ z = (.lit (.bool a), []) := by
  unfold plainElem at h
  rw [he] at h
  cases v <;> simp at h
  exact ⟨_, rfl, h.symm⟩
/-- What a look-up gives. -/
theorem seen_look {w : World} {mb k : Nat} {D : DataW Unit} (h : w.ownsMap Try.prog 9 (plainElem (H := Unit) Try.prog 4) mb k D) (hs : SeenK k D) (j : Nat) (hj : j < 100) :
    (Instr.lookup 46 (.map (some mb)) (.string (nmB j)) false).run Try.prog w = .ok (.bool (decide (j < k))) w := by
  obtain ⟨v, ps, hrun, hv⟩ := h.lookup lawS Try.underlying46 (zeroB w) (plainElem_bool Try.underlying4 false) (key_of (nmB j) (by rw [nmB_size]; decide))
  rw [hs.at_ j hj] at hv
  obtain ⟨a, rfl, he⟩ := plainElem_bool_inv Try.underlying4 hv
  simp only [Prod.mk.injEq, DataW.lit.injEq, Lit.bool.injEq] at he
  rw [hrun, he.1]
/-- The masks, cut down. -/
structure CutMasks (w0 w : World) (v : Value) (n : Nat) (zs : List Int) (k : Nat) : Prop where
  own : OwnMasks w0 w v n zs
  low : ∀ j, j < k → zs.getD j 0 < 2 ^ j
theorem CutMasks.put {w0 w : World} {g n cap : Nat} {zs : List Int} {k : Nat} (h : CutMasks w0 w (.slice (some ⟨g, 0, none⟩) n cap) n zs k) (hk : k < n) (x : Int) (hx : 0 ≤ x ∧ x ≤ 4294967295) (hl : x < 2 ^ k) :
    CutMasks w0 (w.setCell ⟨g, k, none⟩ (.int .u32 x)) (.slice (some ⟨g, 0, none⟩) n cap) n (zs.set k x) (k + 1) :=
  ⟨h.own.put k x hx, fun j hj => by
    have hkz : k < zs.length := by rw [h.own.len]; exact hk
    by_cases he : k = j
    · subst he
      rw [List.getD_eq_getElem?_getD, List.getElem?_set_self hkz]; exact hl
    · rw [List.getD_eq_getElem?_getD, List.getElem?_set_ne he, ← List.getD_eq_getElem?_getD]
      exact h.low j (by omega)⟩
theorem CutMasks.drew {w0 w : World} {v : Value} {n : Nat} {zs : List Int} {k : Nat} (h : CutMasks w0 w v n zs k) : CutMasks w0 w.drew v n zs k := ⟨h.own.drew, h.low⟩

set_option maxHeartbeats 6400000 in
theorem orderStands_any (a0 : Option Addr) (len0 cap0 : Nat) (z0 : List Int) (w : World) (w0 : RowOf .u32 w a0 len0 cap0 z0) :
    Calls Try.prog 4 #[.slice a0 len0 cap0] w fun e w' => e = .returned (.bool true) ∧ Below w.heap.size w w' := by
  obtain ⟨ys, hys⟩ : ∃ ys, ys = z0.take len0 := ⟨_, rfl⟩
  have hrd := w0.rd
  have hlen := w0.len
  have hwf := w0.wf
  have hbd := w0.bounds
  rw [← hys] at hrd hlen hwf
  have hin : In32 ys := fun z hz => rng_u32 (hwf z hz)
  have HRD := Lib.hid hrd
  have HIN := Lib.hid hin
  have HLEN := Lib.hid hlen
  have HK := Lib.hid (known_prog w)
  clear hrd hin hlen hwf hys w0
  go_enter Try.func4, Try.ntmps4
  go_wp2_with fail
  refine HK.out.mono ?_
  rintro e w1 ⟨rfl, hb1⟩
  have HRD1 := Lib.hid (HRD.out.below hb1 (Nat.le_refl _))
  have HB1 := Lib.hid hb1
  have hs1 := hb1.size
  clear hb1
  by_cases hl : 16 < len0
  · go_wp2_with fail
    go_ret
    exact ⟨rfl, HB1.out⟩
  · go_wp2_with (first | (at_builtin; refine app_own _ elemU32 rfl _ _ rfl w.heap.size _ 0 (u32s []) rfl (World.ownsRow_nil _ _ _ _) _ len0 (u32s ys) rfl HRD1.out (u32s_one _) (by simp only [maxLen]; omega) (by omega) (by omega) ?_; intro v3 w3 ho3 hg3))
    have hom : OwnMasks w w3 v3 len0 ys := ⟨by rw [Nat.zero_add] at ho3; exact ho3, HLEN.out, HIN.out, below_of_grown_none HB1.out HB1.out.size hg3⟩
    have HOM := Lib.hid (show CutMasks w w3 v3 len0 ys 0 from ⟨hom, fun j hj => absurd hj (by omega)⟩)
    obtain ⟨va, vc, rfl, x1, x2, x3⟩ := owns_shape hom.row
    unfold maxLen at x2
    have hs3 := hg3.size
    clear hom ho3 hg3
    go_loopw [4] (fun z wr => ∃ (k : Nat) (zs : List Int), k ≤ len0 ∧ z = .int .i64 (k : Int) ∧ CutMasks w wr (.slice va len0 vc) len0 zs k) (fun z _ => len0 - (intOf z).toNat)
    case atStart => exact ⟨0, ys, by omega, rfl, HOM.out⟩
    case round =>
      obtain ⟨k, zs, hk, rfl, hm⟩ := hrel
      obtain ⟨wo, rfl⟩ : ∃ wo : World, wo = wr := ⟨_, rfl⟩
      by_cases hlt : k < len0
      · obtain ⟨g, cap', hvv, hgb, hgs, _, _⟩ := owns_some hm.own.row (by omega)
        cases hvv
        obtain ⟨x, hx⟩ : ∃ x, x = zs.getD k 0 := ⟨_, rfl⟩
        have hkz : k < zs.length := by rw [hm.own.len]; exact hlt
        have hxr := hm.own.rng x (by rw [hx]; simp [hkz])
        obtain ⟨we, hwe⟩ : ∃ we : World, we = wo.drew := ⟨_, rfl⟩
        have hme : CutMasks w we (.slice (some ⟨g, 0, none⟩) len0 vc) len0 zs k := by rw [hwe]; exact hm.drew
        have d1 : we.cell? ⟨g, k, none⟩ = some (.int .u32 x) := by rw [hme.own.row.cellAt k (by omega), u32s_get _ _ hkz, hx]
        have f1 := hme.own.row.frozenAt k
        have HS := Lib.hid (show (fun W : World => W.cell? ⟨g, k, none⟩ = some (.int .u32 x)) we from d1)
        have HM := Lib.hid hme
        have HWE := Lib.hid hwe
        obtain ⟨hp0, hp1⟩ := pow_le30 k (by omega)
        clear hm hx hme hwe
        go_wp2_with fail
        refine wp_region_till 9 (fun W => W.cell? ⟨g, k, none⟩ = some (.int .u32 x)) (by as_aux_lemma => kernel_rfl) ?_
        rw [← HWE.out]
        (refine wpAnyT_take (i := 0) (oi := ?_) (v := ?_) ?_ (by as_aux_lemma => kernel_rfl) (by as_aux_lemma => kernel_rfl) (by as_aux_lemma => kernel_rfl) (by as_aux_lemma => kernel_rfl) ?_ (Or.inl ⟨?_, ?_⟩) HS.out ?_; rotate_left 2; (focus (simp only [List.getElem?_toArray, List.getElem?_cons_succ, List.getElem?_cons_zero] <;> rfl)); (focus exact (fun _ _ _ h => h)); (focus rfl); (focus (intro w hSw; (try dsimp only at hSw); go_simp; try (with_reducible rfl))))
        (try simp only [Act.put, List.setIfInBounds_toArray, List.set_cons_zero, List.set_cons_succ])
        (refine wpAnyT_take (i := 1) (oi := ?_) (v := ?_) ?_ (by as_aux_lemma => kernel_rfl) (by as_aux_lemma => kernel_rfl) (by as_aux_lemma => kernel_rfl) (by as_aux_lemma => kernel_rfl) ?_ (Or.inl ⟨?_, ?_⟩) HS.out ?_; rotate_left 2; (focus (simp only [List.getElem?_toArray, List.getElem?_cons_succ, List.getElem?_cons_zero] <;> rfl)); (focus exact (fun _ _ _ h => h)); (focus rfl); (focus (intro w hSw; (try dsimp only at hSw); go_simp; try (with_reducible rfl))))
        (try simp only [Act.put, List.setIfInBounds_toArray, List.set_cons_zero, List.set_cons_succ])
        (refine wpAnyT_take (i := 2) (oi := ?_) (v := ?_) ?_ (by as_aux_lemma => kernel_rfl) (by as_aux_lemma => kernel_rfl) (by as_aux_lemma => kernel_rfl) (by as_aux_lemma => kernel_rfl) ?_ (Or.inl ⟨?_, ?_⟩) HS.out ?_; rotate_left 2; (focus (simp only [List.getElem?_toArray, List.getElem?_cons_succ, List.getElem?_cons_zero] <;> rfl)); (focus exact (fun _ _ _ h => h)); (focus rfl); (focus (intro w hSw; (try dsimp only at hSw); go_simp; try (with_reducible rfl))))
        (try simp only [Act.put, List.setIfInBounds_toArray, List.set_cons_zero, List.set_cons_succ])
        (refine wpAnyT_take (i := 3) (oi := ?_) (v := ?_) ?_ (by as_aux_lemma => kernel_rfl) (by as_aux_lemma => kernel_rfl) (by as_aux_lemma => kernel_rfl) (by as_aux_lemma => kernel_rfl) ?_ (Or.inl ⟨?_, ?_⟩) HS.out ?_; rotate_left 2; (focus (simp only [List.getElem?_toArray, List.getElem?_cons_succ, List.getElem?_cons_zero] <;> rfl)); (focus exact (fun _ _ _ h => h)); (focus rfl); (focus (intro w hSw; (try dsimp only at hSw); go_simp; try (with_reducible rfl))))
        (try simp only [Act.put, List.setIfInBounds_toArray, List.set_cons_zero, List.set_cons_succ])
        (refine wpAnyT_take (i := 4) (oi := ?_) (v := ?_) ?_ (by as_aux_lemma => kernel_rfl) (by as_aux_lemma => kernel_rfl) (by as_aux_lemma => kernel_rfl) (by as_aux_lemma => kernel_rfl) ?_ (Or.inl ⟨?_, ?_⟩) HS.out ?_; rotate_left 2; (focus (simp only [List.getElem?_toArray, List.getElem?_cons_succ, List.getElem?_cons_zero] <;> rfl)); (focus exact (fun _ _ _ h => h)); (focus rfl); (focus (intro w hSw; (try dsimp only at hSw); go_simp; try (with_reducible rfl))))
        (try simp only [Act.put, List.setIfInBounds_toArray, List.set_cons_zero, List.set_cons_succ])
        (refine wpAnyT_take (i := 5) (oi := ?_) (v := ?_) ?_ (by as_aux_lemma => kernel_rfl) (by as_aux_lemma => kernel_rfl) (by as_aux_lemma => kernel_rfl) (by as_aux_lemma => kernel_rfl) ?_ (Or.inl ⟨?_, ?_⟩) HS.out ?_; rotate_left 2; (focus (simp only [List.getElem?_toArray, List.getElem?_cons_succ, List.getElem?_cons_zero] <;> rfl)); (focus exact (fun _ _ _ h => h)); (focus rfl); (focus (intro w hSw; (try dsimp only at hSw); go_simp; try (with_reducible rfl))))
        (try simp only [Act.put, List.setIfInBounds_toArray, List.set_cons_zero, List.set_cons_succ])
        (refine wpAnyT_take (i := 6) (oi := ?_) (v := ?_) ?_ (by as_aux_lemma => kernel_rfl) (by as_aux_lemma => kernel_rfl) (by as_aux_lemma => kernel_rfl) (by as_aux_lemma => kernel_rfl) ?_ (Or.inl ⟨?_, ?_⟩) HS.out ?_; rotate_left 2; (focus (simp only [List.getElem?_toArray, List.getElem?_cons_succ, List.getElem?_cons_zero] <;> rfl)); (focus exact (fun _ _ _ h => h)); (focus rfl); (focus (intro w hSw; (try dsimp only at hSw); go_simp; try (with_reducible rfl))))
        (try simp only [Act.put, List.setIfInBounds_toArray, List.set_cons_zero, List.set_cons_succ])
        (refine wpAnyT_take (i := 7) (oi := ?_) (v := ?_) ?_ (by as_aux_lemma => kernel_rfl) (by as_aux_lemma => kernel_rfl) (by as_aux_lemma => kernel_rfl) (by as_aux_lemma => kernel_rfl) ?_ (Or.inl ⟨?_, ?_⟩) HS.out ?_; rotate_left 2; (focus (simp only [List.getElem?_toArray, List.getElem?_cons_succ, List.getElem?_cons_zero] <;> rfl)); (focus exact (fun _ _ _ h => h)); (focus rfl); (focus (intro w hSw; (try dsimp only at hSw); go_simp; try (with_reducible rfl))))
        (try simp only [Act.put, List.setIfInBounds_toArray, List.set_cons_zero, List.set_cons_succ])
        (refine wpAnyT_take (i := 8) (oi := ?_) (v := ?_) ?_ (by as_aux_lemma => kernel_rfl) (by as_aux_lemma => kernel_rfl) (by as_aux_lemma => kernel_rfl) (by as_aux_lemma => kernel_rfl) ?_ (Or.inl ⟨?_, ?_⟩) HS.out ?_; rotate_left 2; (focus (simp only [List.getElem?_toArray, List.getElem?_cons_succ, List.getElem?_cons_zero] <;> rfl)); (focus exact (fun _ _ _ h => h)); (focus rfl); (focus (intro w hSw; (try dsimp only at hSw); go_simp; try (with_reducible rfl))))
        (try simp only [Act.put, List.setIfInBounds_toArray, List.set_cons_zero, List.set_cons_succ])
        (refine wpAnyT_late (i := 9) (oi := ?_) ?_ (by as_aux_lemma => kernel_rfl) (by as_aux_lemma => kernel_rfl) (fun K hK => ?_); rotate_left; (focus (simp only [List.getElem?_toArray, List.getElem?_cons_succ, List.getElem?_cons_zero] <;> rfl)))
        go_simp
        refine hK.out _ _ ?_
        clear hK K
        refine wpAnyT_done (by as_aux_lemma => kernel_rfl) ?_ _
        go_wp2_with fail
        go_roundw
        case rel => exact ⟨k + 1, _, by omega, by go_num, HM.out.put hlt _ (and_in32 _ _) (by rw [mask .u32 k (by simp [IntKind.bits]; omega) (Or.inl rfl)]; exact Int.emod_lt_of_pos _ (by omega))⟩
        case measure => simp [intOf]; omega
      · obtain rfl : k = len0 := by omega
        obtain rfl := HLEN.out
        have hlz : zs.length = ys.length := hm.own.len
        have hM2 := made_prog wo (.slice va ys.length vc) zs false (by omega) (by rw [hlz]; exact rd_of_owns hm.own.row) hm.own.rng
        rw [hlz] at hM2
        have HLOW := Lib.hid (show Low zs from fun i hi => ⟨(hm.own.rng _ (by simp [hi])).1, hm.low i (by omega)⟩)
        have HM2 := Lib.hid hM2
        have HB := Lib.hid hm.own.old
        have HLZ := Lib.hid hlz
        clear hM2 hm hlz
        go_wp2_with fail
        refine HM2.out.mono ?_
        rintro e w4 ⟨⟨a4, c4, rfl, hp4⟩, hb4⟩
        have HO := Lib.hid (order_prog w4 a4 ys.length c4 _ hp4)
        rw [← HLZ.out, ord_low HLOW.out (by rw [HLZ.out]; omega), HLZ.out] at HO
        have HP4 := Lib.hid hp4
        have HB4 := Lib.hid (HB.out.trans (hb4.mono HB.out.size))
        have hle := hp4.le
        have hcap := hp4.cap63
        clear hp4 hb4
        go_wp2_with fail
        refine HO.out.mono ?_
        rintro e w5 ⟨⟨v, rfl, hv⟩, hb5⟩
        have hlr : (List.range ys.length).length = ys.length := List.length_range
        rw [hlr] at hv
        obtain ⟨la, lc, rfl, y1, y2, y3⟩ := rd_shape hv
        unfold maxLen at y2
        have HV := Lib.hid hv
        have HP5 := Lib.hid (HP4.out.below hb5 (Nat.le_refl _))
        have HB5 := Lib.hid (HB4.out.trans (hb5.mono HB4.out.size))
        have hmm := @run_makeMap Try.prog
        clear hv hb5 hlr
        go_wp2_with fail
        go_loopw [9] (fun z wr => ∃ (k : Nat) (D : DataW Unit), k ≤ ys.length ∧ z = .int .i64 (k : Int) ∧ wr.ownsMap Try.prog 9 (plainElem (H := Unit) Try.prog 4) w5.heap.size k D ∧ SeenK k D ∧ Below w5.heap.size w5 wr) (fun z _ => ys.length - (intOf z).toNat)
        case atStart => exact ⟨0, _, by omega, rfl, World.ownsMap_made w5 _ _ _, SeenK.start, (Below.refl _ _).alloc (Nat.le_refl _) _⟩
        case round =>
          obtain ⟨k, D, hk, rfl, hown, hseen, hb⟩ := hrel
          obtain ⟨wy, rfl⟩ : ∃ wy : World, wy = wr := ⟨_, rfl⟩
          by_cases hlk : k < ys.length
          · have hpy := HP5.out.below hb (Nat.le_refl _)
            obtain ⟨ab, ao, rfl, hcc⟩ := hpy.cells (by omega)
            obtain ⟨iv, hr, d0, d1, d2, d3, d4, d5, d6, d7⟩ := hcc k hlk
            have hsm := hpy.small k hlk
            obtain ⟨_, la', lc', hle', _, _, _, hlc⟩ := HV.out
            cases hle'
            obtain ⟨lb, lo, rfl, hlcc⟩ := hlc (by omega)
            have dl : wy.cell? ⟨lb, lo + k, none⟩ = some (.int .i64 (k : Int)) := cell_below hb (Nat.le_refl _) (hlcc k _ (by rw [nats_get _ _ (by rw [List.length_range]; exact hlk)]; simp [hlk]))
            rw [made_name] at d0
            have hrun := seen_look hown hseen k (by omega)
            rw [decide_eq_false (by omega : ¬ k < k)] at hrun
            obtain ⟨L, hL⟩ : ∃ L, L = needsOf (madeM zs false k).imps := ⟨_, rfl⟩
            have hN : Calls Try.prog 11 #[.agg #[.string (nmB k), iv, .slice none 0 0, .slice none 0 0, .slice none 0 0, .slice none 0 0, .slice none 0 0, .slice none 0 0]] wy (OwnRet wy.heap.size 9 1 L.length (strs L) wy) := by
              rw [hL]; exact needs_prog wy (nmB k) iv _ hsm hr
            have hLl : L.length ≤ 1000 := by rw [hL]; have := needsOf_le (madeM zs false k).imps; omega
            have hLx : ∀ x ∈ L, ∃ t, t < k ∧ x = nmB t := fun x hx => needs_low HLOW.out (by rw [HLZ.out]; omega) (by rw [HLZ.out]; exact hlk) (by rw [← hL]; exact hx)
            have HN := Lib.hid hN
            have HLX := Lib.hid hLx
            have HOWN := Lib.hid hown
            have HSEEN := Lib.hid hseen
            have HBY := Lib.hid hb
            have HD0 := Lib.hid d0
            have HDL := Lib.hid dl
            have hk0 : ¬ (k : Int) < 0 := by omega
            have hk1 : ¬ (ys.length : Int) ≤ (k : Int) := by omega
            clear hpy hcc hr hown hseen hb hN hL hLx hlc hlcc
            go_wp2_with fail
            refine HN.out.mono ?_
            rintro e w6 ⟨v, rfl, hrow, hb6⟩
            obtain ⟨na, nc, rfl, v1, v2, v3⟩ := owns_shape hrow
            unfold maxLen at v2
            have HROW := Lib.hid hrow
            have HB6 := Lib.hid hb6
            have ho6 := HOWN.out.kept (w' := w6) (row := none) ⟨hb6.os, hb6.tape, hb6.output, hb6.size, fun j hj _ => hb6.block j hj⟩ (by simp)
            have HO6 := Lib.hid ho6
            clear hrow hb6 ho6 hrun d0 d1 d2 d3 d4 d5 d6 d7 dl
            go_wp2_with fail
            go_loopw [11] (fun z wz => ∃ m : Nat, m ≤ L.length ∧ z = .int .i64 (m : Int) ∧ wz = w6) (fun z _ => L.length - (intOf z).toNat)
            case atStart => exact ⟨0, by omega, rfl, rfl⟩
            case round =>
              obtain ⟨m, hm, rfl, hwz⟩ := hrel
              obtain ⟨wz, rfl⟩ : ∃ wz : World, wz = wr := ⟨_, rfl⟩
              subst hwz
              by_cases hlm : m < L.length
              · obtain ⟨g, vc', hvv, hgb, hgs, _, _⟩ := owns_some HROW.out (by omega)
                cases hvv
                obtain ⟨t, ht, hx⟩ := HLX.out _ (mem_getD hlm)
                have dg : wz.cell? ⟨g, m, none⟩ = some (.string (nmB t)) := by rw [HROW.out.cellAt m (by omega), strs_get _ _ hlm, hx]
                have hrun := seen_look HO6.out HSEEN.out t (by omega)
                rw [decide_eq_true ht] at hrun
                clear hx
                go_wp2_with fail
                go_roundw
                case rel => exact ⟨m + 1, by omega, by go_num, trivial⟩
                case measure => simp [intOf]; omega
              · obtain rfl : m = L.length := by omega
                have d0 : wz.cell? ⟨ab, ao + k * 8, none⟩ = some (.string (nmB k)) := cell_below HB6.out (Nat.le_refl _) HD0.out
                have dl : wz.cell? ⟨lb, lo + k, none⟩ = some (.int .i64 (k : Int)) := cell_below HB6.out (Nat.le_refl _) HDL.out
                obtain ⟨w7, hup, hown7, hg7⟩ := HO6.out.update lawS Try.underlying46 (by unfold maxLen; omega) (key_of (nmB k) (by rw [nmB_size]; decide)) (plainElem_bool Try.underlying4 true)
                have HS7 := Lib.hid (HSEEN.out.next (by omega))
                have HO7 := Lib.hid hown7
                have hb57 : Below w5.heap.size w5 w7 := (HBY.out.trans (HB6.out.mono HBY.out.size)).grown hg7 (Nat.le_trans HBY.out.size HB6.out.size) fun j hj => by cases hj; exact Nat.le_refl _
                have HB7 := Lib.hid hb57
                clear hown7 hg7 hb57
                go_wp2_with fail
                go_roundw
                case rel => exact ⟨k + 1, _, by omega, by go_num, HO7.out, HS7.out, HB7.out⟩
                case measure => simp [intOf]; omega
          · obtain rfl : k = ys.length := by omega
            have HBB := Lib.hid (HB5.out.trans (hb.mono HB5.out.size))
            clear hb hown hseen
            go_wp2_with fail
            go_ret
            exact ⟨rfl, HBB.out⟩
end Go.Proofs.Ytelpnbjnjfajdaa
