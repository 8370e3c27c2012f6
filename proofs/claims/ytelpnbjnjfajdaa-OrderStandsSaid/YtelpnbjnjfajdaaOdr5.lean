/- Order: the program's visit, whole. -/
import Derived.Test.YtelpnbjnjfajdaaOdr4
namespace Go.Proofs.Ytelpnbjnjfajdaa
open Go.RowKit Go.Waf Go.Maps
set_option maxRecDepth 100000
set_option linter.unusedVariables false

section
variable {w0 w : World} {q mb ob n cap : Nat} {a : Option Addr} {M : Nat → Md} {ov : Value} {s : St}
theorem elemInt : Elem Try.prog 28 3 1 8 := Elem.mk' (z := .int .i64 0) Try.underlying28 (by kernel_rfl) rfl (by decide)
def FF (q ob : Nat) (ov : Value) (k : Nat) : Prop := k = q ∨ k = ob ∨ ov.ownBlock = some k
def VPost (w0 : World) (q mb ob : Nat) (a : Option Addr) (n cap : Nat) (M : Nat → Md) (w : World) (ov : Value) (r : Bool × St) (e : Ending) (w' : World) : Prop :=
  ∃ ov', e = .returned (.bool r.1) ∧ PW w0 w' q mb ob a n cap M ov' r.2 ∧ Fr (FF q ob ov) w w' ∧ ∀ k, ov'.ownBlock = some k → ov.ownBlock = some k ∨ w.heap.size ≤ k
/-- i is there. -/
theorem PW.done {wr w3 : World} {v3 : Value} (hW : PW w0 wr q mb ob a n cap M ov s) (o : Obj) (i : Nat) (hr : s.out.length + 1 + free s.on n ≤ n) (ho : w3.ownsRow w0.heap.size 3 1 v3 (s.out.length + 1) (nats s.out ++ nats [i])) (hg : (wr.alloc o).grownBy w3 ov.ownBlock)
    (hl : ∀ k, v3.ownBlock = some k → ov.ownBlock = some k ∨ (wr.alloc o).heap.size ≤ k) : PW w0 (w3.setCell ⟨q, 3, none⟩ v3) q mb ob a n cap M v3 (s.done i) := by
  obtain ⟨l1, l2, l3⟩ := hW.lt
  obtain ⟨D, m1, m2⟩ := hW.map
  have hs : (wr.alloc o).heap.size = wr.heap.size + 1 := by simp
  have t1 : v3.ownBlock ≠ some q := fun h => by rcases hl q h with h | h; exact hW.tq h; omega
  have t2 : v3.ownBlock ≠ some mb := fun h => by rcases hl mb h with h | h; exact hW.tm h; omega
  have t3 : v3.ownBlock ≠ some ob := fun h => by rcases hl ob h with h | h; exact hW.to h; omega
  have b1 := blk_grown (blk_alloc hW.blk o) hg hW.tq
  have b2 := blk_grown (blk_alloc hW.on o) hg hW.to
  have hb0 : Below w0.heap.size w0 w3 := by
    have hb := hW.old
    have hx := hb.alloc hb.size o
    refine ⟨hg.os.trans hx.os, hg.tape.trans hx.tape, hg.output.trans hx.output, Nat.le_trans hx.size hg.size, fun j hj => (hg.block j (by have := hb.size; omega) fun h => ?_).trans (hx.block j hj)⟩
    have := (hW.row.lt j h.symm).1
    omega
  refine ⟨by rw [heap_setCell_same w3 q 3 _ _ _ b1]; rfl, ⟨D, ((m1.alloc o).kept hg (fun h => hW.tm h.symm)).setCell (by exact fun h => hW.qm h.symm) _, m2⟩, by rw [Below.heap_setCell w3 _ _ ob (fun h => hW.qo h.symm)]; exact b2, ?_, hW.bq, hW.bm, hW.bo, hW.qm, hW.qo, hW.mo, t1, t2, t3, ?_, hb0.setCell hW.bq _⟩
  · have := owns_set_other ho ⟨q, 3, none⟩ v3 t1
    rw [← nats_append] at this
    have e : (s.done i).out.length = s.out.length + 1 := by simp [St.done]
    rw [e]; exact this
  · simp only [St.done, List.length_append, List.length_cons, List.length_nil]; omega

set_option maxHeartbeats 6400000 in
theorem visit_go (f : Nat) (hn : n ≤ 1000) (hp : ModsAt w0 a n cap M) (hA : All M n)
    (ih : ∀ (w : World) (ov : Value) (s : St) (i : Nat), PW w0 w q mb ob a n cap M ov s → i < n → free s.on n ≤ f → Calls Try.prog 13 #[.pointer (some ⟨q, 0, none⟩), .int .i64 (i : Int)] w (VPost w0 q mb ob a n cap M w ov (vis M n f s i)))
    (hW : PW w0 w q mb ob a n cap M ov s) (i : Nat) (hi : i < n) (hf : free s.on n ≤ f + 1) (h : i ∉ s.out) (hon : s.on i = false) :
    Calls Try.prog 13 #[.pointer (some ⟨q, 0, none⟩), .int .i64 (i : Int)] w (VPost w0 q mb ob a n cap M w ov (vis M n (f + 1) s i)) := by
  have hvis : vis M n (f + 1) s i = if (visL (vis M n f) (idxN M n) (needsOf (M i).imps) (s.mark i)).1 = true then (true, (visL (vis M n f) (idxN M n) (needsOf (M i).imps) (s.mark i)).2.done i)
    else (false, (visL (vis M n f) (idxN M n) (needsOf (M i).imps) (s.mark i)).2) := by
    rw [vis, if_neg h, if_neg (by rw [hon]; simp)]
  obtain ⟨l1, l2, l3⟩ := hW.lt
  have hfu := free_upd s.on i hon n hi
  have hpw := hW.mods hp
  have hle := hpw.le
  have hcap := hpw.cap63
  obtain ⟨ab, ao, rfl, hc⟩ := hpw.cells (by omega)
  obtain ⟨iv, hr, d0, d1, d2, d3, d4, d5, d6, d7⟩ := hc i hi
  have hab : ab < w0.heap.size := by
    obtain ⟨ab', ao', hab', hc'⟩ := hp.cells (by omega)
    cases hab'
    obtain ⟨_, _, e0, _⟩ := hc' i hi
    exact World.block_lt_of_cell? w0 _ e0
  have hsm := hp.small i hi
  have hin := hp.inames i hi
  obtain ⟨oa, oc, rfl, o1, o2, o3⟩ := owns_shape hW.row
  have c3 : w.cell? ⟨q, 3, none⟩ = some (.slice oa s.out.length oc) := by rw [cell_of_row w q 3 _ _ _ hW.blk]; rfl
  have c2 : w.cell? ⟨q, 2, none⟩ = some (.slice (some ⟨ob, 0, none⟩) n n) := by rw [cell_of_row w q 2 _ _ _ hW.blk]; rfl
  have c0 : w.cell? ⟨q, 0, none⟩ = some (.slice (some ⟨ab, ao, none⟩) n cap) := by rw [cell_of_row w q 0 _ _ _ hW.blk]; rfl
  have co : w.cell? ⟨ob, i, none⟩ = some (.bool false) := by rw [cell_of_row w ob i _ _ _ hW.on, boolsA_get _ _ _ hi, hon]
  have fo := frozen_of_row w ob i _ _ hW.on
  have HC := Lib.hid (contains_in w _ s.out i (rd_of_owns hW.row))
  rw [show decide (i ∈ s.out) = false from decide_eq_false h] at HC
  have hW1 := hW.mark i hi hon
  have hpw1 := hW1.mods hp
  obtain ⟨L, hL⟩ : ∃ L, L = needsOf (M i).imps := ⟨_, rfl⟩
  have hLs : ∀ x ∈ L, x.size ≤ 1000 ∧ 0 ≤ atN M n x ∧ idxN M n x < n := fun x hx => by
    rw [hL] at hx
    exact ⟨hin x (List.mem_filter.1 hx).1, hA i hi x hx, hA.idx hi x hx⟩
  have hLl : L.length ≤ 1000 := by rw [hL]; have := needsOf_le (M i).imps; omega
  have hqab : q ≠ ab := by have := hW.bq; omega
  have hoab : ob ≠ ab := by have := hW.bo; omega
  have hwf := fun o => World.cell?_setCell_far w ⟨ob, i, none⟩ ⟨ab, o, none⟩ (.bool true) hoab
  have t0 := (hwf _).trans d0
  have t1 := (hwf _).trans d1
  have t2 := (hwf _).trans d2
  have t3 := (hwf _).trans d3
  have t4 := (hwf _).trans d4
  have t5 := (hwf _).trans d5
  have t6 := (hwf _).trans d6
  have t7 := (hwf _).trans d7
  have tq : (w.setCell ⟨ob, i, none⟩ (.bool true)).cell? ⟨q, 0, none⟩ = some (.slice (some ⟨ab, ao, none⟩) n cap) := by
    rw [World.cell?_setCell_far w ⟨ob, i, none⟩ ⟨q, 0, none⟩ _ (fun e => hW.qo e.symm)]; exact c0
  clear hwf
  have hN : Calls Try.prog 11 #[.agg #[.string (M i).name, iv, .slice none 0 0, .slice none 0 0, .slice none 0 0, .slice none 0 0, .slice none 0 0, .slice none 0 0]] (w.setCell ⟨ob, i, none⟩ (.bool true)) (OwnRet w.heap.size 9 1 L.length (strs L) (w.setCell ⟨ob, i, none⟩ (.bool true))) := by
    have := needs_prog (w.setCell ⟨ob, i, none⟩ (.bool true)) (M i).name iv (M i).imps hsm (by
      obtain ⟨ab', ao', hab', hc'⟩ := hpw1.cells (by omega)
      cases hab'
      obtain ⟨iv', hr', e0, e1, _⟩ := hc' i hi
      rw [World.cell?_setCell_far w ⟨ob, i, none⟩ ⟨ab, ao + i * 8 + 1, none⟩ _ hoab] at e1
      rw [d1] at e1; cases e1
      exact hr')
    rw [← hL] at this
    have e : (w.setCell ⟨ob, i, none⟩ (.bool true)).heap.size = w.heap.size := by simp
    rw [e] at this
    exact this
  rw [← hL] at hvis
  have hsf : free (s.mark i).on n ≤ f := by simp only [St.mark]; omega
  have hM0 : ∀ k s', visL (vis M n f) (idxN M n) (L.take k) (s.mark i) = (true, s') → Meas n (s.mark i) s' := fun k s' hk => by
    have := visL_meas (idx := idxN M n) (vis_meas hA f) (L.take k) (s.mark i) (fun x hx => (hLs x (List.mem_of_mem_take hx)).2.2)
    rw [hk] at this; exact this
  have hrm : (s.mark i).out.length + free (s.mark i).on n + 1 ≤ n := by have := hW.room; simp only [St.mark]; omega
  have hloc : ∀ k, (Value.slice oa s.out.length oc).ownBlock = some k → w0.heap.size ≤ k ∧ k < w.heap.size := fun k hk => hW.row.lt k hk
  have hFm : Fr (FF q ob (.slice oa s.out.length oc)) w (w.setCell ⟨ob, i, none⟩ (.bool true)) := (Fr.of_new (Below.refl _ w)).setCell (.inr (.inr (.inl rfl))) _
  have HN := Lib.hid hN
  have HW1 := Lib.hid hW1
  have HVIS := Lib.hid hvis
  have HLS := Lib.hid hLs
  have HM0 := Lib.hid hM0
  have HRM := Lib.hid hrm
  have HSF := Lib.hid hsf
  have HLOC := Lib.hid hloc
  have HFM := Lib.hid hFm
  have IH := Lib.hid ih
  have HL := Lib.hid hL
  clear hW hpw hc hr hp hin hW1 hpw1 hLs hN hvis hM0 hrm hsf hloc hFm ih hL hA hfu hf
  go_enter Try.func13, Try.ntmps13
  go_wp2_with fail
  refine HC.out.mono ?_
  rintro e w1 ⟨rfl, rfl⟩
  go_wp2_with fail
  refine HN.out.mono ?_
  rintro e w2 ⟨v, rfl, hrow, hb2⟩
  obtain ⟨va, vc, rfl, v1, v2, v3⟩ := owns_shape hrow
  unfold maxLen at v2
  have e1 : (w1.setCell ⟨ob, i, none⟩ (.bool true)).heap.size = w1.heap.size := by simp
  have hb2' : Below (w1.setCell ⟨ob, i, none⟩ (.bool true)).heap.size (w1.setCell ⟨ob, i, none⟩ (.bool true)) w2 := by rw [e1]; exact hb2
  have HW2 := Lib.hid (HW1.out.below hb2' (Nat.le_refl _))
  have HROW := Lib.hid hrow
  have HF2 := Lib.hid (show Fr (FF q ob (.slice oa s.out.length oc)) w1 w2 from HFM.out.trans (Fr.of_new (F := fun _ => False) hb2') (fun _ _ h => h.elim))
  have hs2 : w1.heap.size ≤ w2.heap.size := by have := hb2'.size; omega
  clear hrow hb2 hb2' e1
  go_wp2_with fail
  go_loopw [37] (fun z wr => ∃ (k : Nat) (s' : St) (ov' : Value), k ≤ L.length ∧ z = .int .i64 (k : Int) ∧ visL (vis M n f) (idxN M n) (L.take k) (s.mark i) = (true, s') ∧ PW w0 wr q mb ob (some ⟨ab, ao, none⟩) n cap M ov' s' ∧ Fr (FF q ob (.slice oa s.out.length oc)) w2 wr ∧ (∀ k, ov'.ownBlock = some k → (Value.slice oa s.out.length oc).ownBlock = some k ∨ w2.heap.size ≤ k)) (fun z _ => L.length - (intOf z).toNat)
  case atStart => exact ⟨0, s.mark i, _, by omega, rfl, rfl, HW2.out, Fr.of_new (Below.refl _ _), fun k hk => .inl hk⟩
  case round =>
    obtain ⟨k, s', ov', hk, rfl, hv, hWr, hFr, hlo⟩ := hrel
    by_cases hlt : k < L.length
    · obtain ⟨g, vc', hvv, hgb, hgs, _, _⟩ := owns_some HROW.out (by omega)
      cases hvv
      obtain ⟨x, hx⟩ : ∃ x, x = L.getD k ByteArray.empty := ⟨_, rfl⟩
      obtain ⟨hx1, hx2, hx3⟩ := HLS.out x (by rw [hx]; exact mem_getD hlt)
      obtain ⟨j, hj⟩ : ∃ j, j = idxN M n x := ⟨_, rfl⟩
      have hjx : atN M n x = (j : Int) := by rw [hj]; unfold idxN; omega
      have dg : wr.cell? ⟨g, k, none⟩ = some (.string x) := by
        rw [hFr.cell (p := ⟨g, k, none⟩) hgs (fun hF => by
          rcases hF with h | h | h
          · have : g = q := h; omega
          · have : g = ob := h; omega
          · have := (HLOC.out g h).2; omega), HROW.out.cellAt k (by omega), strs_get _ _ hlt, hx]
      have d1 : wr.cell? ⟨q, 1, none⟩ = some (.map (some mb)) := by rw [cell_of_row wr q 1 _ _ _ hWr.blk]; rfl
      obtain ⟨D, hown, hD⟩ := hWr.map
      have HO := Lib.hid hown
      have HKEY := Lib.hid (key_of x hx1)
      have HMAP := Lib.hid (hD x hx2)
      rw [hjx] at HMAP
      have HM := HM0.out k s' hv
      have HI := Lib.hid (IH.out wr ov' s' j hWr (by rw [hj]; exact hx3) (by have := HM.free; have := HSF.out; omega))
      have hnx := visL_next (step := vis M n f) (idx := idxN M n) (s := s.mark i) (s' := s') hlt hv
      have hst := visL_stop (step := vis M n f) (idx := idxN M n) (s := s.mark i) (s' := s') hlt hv
      rw [← hx, ← hj] at hnx hst
      have hws : w2.heap.size ≤ wr.heap.size := hFr.size
      have HNX := Lib.hid hnx
      have HST := Lib.hid hst
      have HFR := Lib.hid hFr
      have HLO := Lib.hid hlo
      clear hx hj hjx hown hD HM hnx hst hFr hlo hv hWr
      cases hb : (vis M n f s' j).1
      · rw [hb] at HST
        have HB := Lib.hid hb
        clear hb
        go_wp2_with (first | (at_lookup; refine wpList_lookup_own_int _ rfl _ _ 51 rfl 9 3 .i64 lawS Try.underlying51 Try.underlying3 (zeroI _) mb 100 D rfl HO.out _ _ rfl HKEY.out ?_; intro c hat hwc; rw [HMAP.out] at hat; simp only [DataW.lit.injEq, Lit.int.injEq, true_and] at hat; subst hat) | fail)
        refine HI.out.mono ?_
        rintro e w4 ⟨ov4, he, hp4, hf4, hl4⟩
        rw [HB.out] at he
        subst he
        have HR := Lib.hid (show VPost w0 q mb ob (some ⟨ab, ao, none⟩) n cap M w1 (.slice oa s.out.length oc) (vis M n (f + 1) s i) (.returned (.bool false)) w4 from ⟨ov4, by rw [HVIS.out, HST.out trivial]; rfl, by rw [HVIS.out, HST.out trivial]; exact hp4,
          (HF2.out.trans HFR.out (fun _ _ h => h)).trans hf4 (fun k hk h => by
            rcases h with h | h | h
            · exact .inl h
            · exact .inr (.inl h)
            · rcases HLO.out k h with h | h
              · exact .inr (.inr h)
              · omega), fun k h => by
            rcases hl4 k h with h | h
            · rcases HLO.out k h with h | h
              · exact .inl h
              · right; omega
            · right; omega⟩)
        clear hp4 hf4 hl4
        go_wp2_with fail
        go_ret
        exact HR.out
      · rw [hb] at HNX
        have HB := Lib.hid hb
        clear hb
        go_wp2_with (first | (at_lookup; refine wpList_lookup_own_int _ rfl _ _ 51 rfl 9 3 .i64 lawS Try.underlying51 Try.underlying3 (zeroI _) mb 100 D rfl HO.out _ _ rfl HKEY.out ?_; intro c hat hwc; rw [HMAP.out] at hat; simp only [DataW.lit.injEq, Lit.int.injEq, true_and] at hat; subst hat) | fail)
        refine HI.out.mono ?_
        rintro e w4 ⟨ov4, he, hp4, hf4, hl4⟩
        rw [HB.out] at he
        subst he
        have HP4 := Lib.hid hp4
        have HF4 := Lib.hid (show Fr (FF q ob (.slice oa s.out.length oc)) w2 w4 from HFR.out.trans hf4 (fun k hk h => by
            rcases h with h | h | h
            · exact .inl h
            · exact .inr (.inl h)
            · rcases HLO.out k h with h | h
              · exact .inr (.inr h)
              · omega))
        have HL4 := Lib.hid (show ∀ k, ov4.ownBlock = some k → (Value.slice oa s.out.length oc).ownBlock = some k ∨ w2.heap.size ≤ k from fun k h => by
            rcases hl4 k h with h | h
            · exact HLO.out k h
            · right; omega)
        clear hp4 hf4 hl4
        go_wp2_with fail
        go_roundw
        case rel => exact ⟨k + 1, _, ov4, by omega, by go_num, HNX.out trivial, HP4.out, HF4.out, HL4.out⟩
        case measure => simp [intOf]; omega
    · obtain rfl : k = L.length := by omega
      rw [List.take_length] at hv
      have hM := HM0.out L.length s' (by rw [List.take_length]; exact hv)
      have hroom : s'.out.length + 1 + free s'.on n ≤ n := by have := hM.room; have := HRM.out; omega
      obtain ⟨pa, pc, rfl, p1, p2, p3⟩ := owns_shape hWr.row
      have d3 : wr.cell? ⟨q, 3, none⟩ = some (.slice pa s'.out.length pc) := by rw [cell_of_row wr q 3 _ _ _ hWr.blk]; rfl
      have hws : w2.heap.size ≤ wr.heap.size := hFr.size
      have HV := Lib.hid hv
      have HP := Lib.hid hWr
      have HFR := Lib.hid hFr
      have HLO := Lib.hid hlo
      have hbs := hWr.old.size
      clear hM hv hWr hFr hlo
      go_wp2_with (first | (at_builtin; refine app_own2 _ elemInt rfl _ _ rfl w0.heap.size _ s'.out.length (nats s'.out) rfl (HP.out.row.alloc _) _ 1 (nats [i]) rfl (rd_new _ _ _ _ _ (by simp) (by simp [maxLen])) (nats_one _) (by simp only [maxLen]; omega) (by omega) (by simp; omega) ?_; intro v3 w3 ho3 hg3 hl3; have f3 := frozen_of_row w3 q 3 _ _ (blk_grown (blk_alloc HP.out.blk _) hg3 HP.out.tq); have k3 : w3.cell? ⟨q, 3, none⟩ = some (.slice pa s'.out.length pc) := (cell_of_row w3 q 3 _ _ _ (blk_grown (blk_alloc HP.out.blk _) hg3 HP.out.tq)).trans rfl; obtain ⟨a3, m3, rfl, _, _, _⟩ := owns_shape ho3) | fail)
      have hPW := HP.out.done _ i hroom ho3 hg3 hl3
      have hfr : Fr (FF q ob (.slice oa s.out.length oc)) w1 (w3.setCell ⟨q, 3, none⟩ (.slice a3 (s'.out.length + 1) m3)) := (((HF2.out.trans HFR.out (fun _ _ h => h)).alloc _).trans (Fr.of_grown (F := fun k => (Value.slice pa s'.out.length pc).ownBlock = some k) hg3 (fun k h => h)) (fun k hk h => by
        rcases HLO.out k h with h | h
        · exact .inr (.inr h)
        · omega)).setCell (.inr (.inl rfl)) _
      have HR := Lib.hid (show VPost w0 q mb ob (some ⟨ab, ao, none⟩) n cap M w1 (.slice oa s.out.length oc) (vis M n (f + 1) s i) (.returned (.bool true)) (w3.setCell ⟨q, 3, none⟩ (.slice a3 (s'.out.length + 1) m3)) from
        ⟨_, by rw [HVIS.out, HV.out]; rfl, by rw [HVIS.out, HV.out]; exact hPW, hfr, fun k h => by
          rcases hl3 k h with h | h
          · rcases HLO.out k h with h | h
            · exact .inl h
            · right; omega
          · right; simp at h; omega⟩)
      clear hPW hfr
      go_wp2_with fail
      go_ret
      exact HR.out
end
theorem vis_in {M : Nat → Md} {n f : Nat} {s : St} {i : Nat} (h : i ∈ s.out) : vis M n f s i = (true, s) := by
  cases f with
  | zero => simp [vis, h]
  | succ f => rw [vis, if_pos h]
theorem vis_on {M : Nat → Md} {n f : Nat} {s : St} {i : Nat} (h : i ∉ s.out) (ho : s.on i = true) : vis M n f s i = (false, s) := by
  cases f with
  | zero => simp [vis, h]
  | succ f => rw [vis, if_neg h, if_pos ho]
theorem visit_prog {w0 : World} {q mb ob n cap : Nat} {a : Option Addr} {M : Nat → Md} (hn : n ≤ 1000) (hp : ModsAt w0 a n cap M) (hA : All M n) : ∀ (f : Nat) (w : World) (ov : Value) (s : St) (i : Nat), PW w0 w q mb ob a n cap M ov s → i < n → free s.on n ≤ f →
    Calls Try.prog 13 #[.pointer (some ⟨q, 0, none⟩), .int .i64 (i : Int)] w (VPost w0 q mb ob a n cap M w ov (vis M n f s i)) := by
  intro f
  induction f with
  | zero =>
    intro w ov s i hW hi hf
    by_cases h : i ∈ s.out
    · rw [vis_in h]
      exact (visit_in hn hW i hi h).mono fun e w' ⟨he, hw⟩ => by subst hw; exact ⟨ov, he, hW, Fr.of_new (Below.refl _ _), fun k hk => .inl hk⟩
    · have ho : s.on i = true := by
        cases ho : s.on i
        · have := free_upd s.on i ho n hi; omega
        · rfl
      rw [vis_on h ho]
      exact (visit_on hn hW i hi h ho).mono fun e w' ⟨he, hw⟩ => by subst hw; exact ⟨ov, he, hW, Fr.of_new (Below.refl _ _), fun k hk => .inl hk⟩
  | succ f ih =>
    intro w ov s i hW hi hf
    by_cases h : i ∈ s.out
    · rw [vis_in h]
      exact (visit_in hn hW i hi h).mono fun e w' ⟨he, hw⟩ => by subst hw; exact ⟨ov, he, hW, Fr.of_new (Below.refl _ _), fun k hk => .inl hk⟩
    · cases ho : s.on i
      · exact visit_go f hn hp hA ih hW i hi hf h ho
      · rw [vis_on h ho]
        exact (visit_on hn hW i hi h ho).mono fun e w' ⟨he, hw⟩ => by subst hw; exact ⟨ov, he, hW, Fr.of_new (Below.refl _ _), fun k hk => .inl hk⟩
end Go.Proofs.Ytelpnbjnjfajdaa
