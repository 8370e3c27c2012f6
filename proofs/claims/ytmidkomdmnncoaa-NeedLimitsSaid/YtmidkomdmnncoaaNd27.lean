/- Need: the walk of NeedLimits, way 2: how many units. -/
import Derived.Test.YtmidkomdmnncoaaNd24
import Derived.Test.YtmidkomdmnncoaaNd26
namespace Go.Proofs.Ytmidkomdmnncoaa
open Go.RowKit Go.Waf
set_option maxRecDepth 100000
set_option linter.unusedVariables false
set_option linter.unusedSimpArgs false

theorem elemStmt : Elem Try.prog 28 40 4 80 := Elem.mk' (z := .agg #[.int .i64 0, .slice none 0 0, .slice none 0 0, .slice none 0 0]) Try.underlying28 (by kernel_rfl) rfl (by decide)
theorem putL4_one : ∀ u ∈ putL4, u.oneCell' = true := by simp [putL4, Value.oneCell']
def moP (pa : Option Addr) (np pc : Nat) (ba : Option Addr) (nb bc : Nat) : Mo := Mo.mk { data := #[77] } none 0 0 pa np pc ba nb bc
theorem good_P {W : World} {pa : Option Addr} {np pc : Nat} {ba : Option Addr} {nb bc qn : Nat} (hp : PrsAt W pa np ba qn bc) (hq : StsAt W ba qn (fun _ => putS)) (hb : StsAt W ba nb (fun _ => putS)) (h1 : np ≤ pc) (h2 : pc ≤ 9223372036854775807) (h3 : np ≤ 8) (h4 : qn ≤ bc) (h5 : nb ≤ bc) (h6 : bc ≤ 9223372036854775807) (hqn : qn ≤ 1000 := by omega) (hnb : nb ≤ 1000 := by omega) : Good W (moP pa np pc ba nb bc) (fun _ => 0) ba qn bc (fun _ => putS) (fun _ => putS) where
  v := fun h => absurd h (Nat.lt_irrefl 0)
  k := fun _ => by omega
  nv := ⟨Nat.le_refl _, by show 0 ≤ 9223372036854775807; omega, by show 0 ≤ 100; omega⟩
  p := hp
  np := ⟨h1, h2, by show np ≤ 1000; omega⟩
  q := hq
  nq := ⟨h4, h6⟩
  b := hb
  nb := ⟨h5, h6⟩
  most := by rw [mostM_put]; omega
  units := by
    rw [unitsM_put]
    show np + np * qn + nb ≤ 1000000
    have := Nat.mul_le_mul h3 hqn
    omega
/-- What each operation leaves of 'append a procedure'. -/
def PsiP (M0 B base k : Nat) (v0 : Value) (ba : Option Addr) (i bc : Nat) : Nat → Value → World → Prop
  | 0, v, _ => v = .pointer (some ⟨M0, 6, none⟩)
  | 1, v, _ => v = v0
  | 2, v, _ => v = .slice ba i bc
  | 3, v, _ => v = .slice ba 998 bc
  | 4, v, _ => v = .agg #[.string { data := #[] }, .bool false, .slice none 0 0, .int .i64 0, .int .i64 0, .string { data := #[] }, .slice none 0 0, .slice none 0 0, .slice ba 998 bc, .slice none 0 0]
  | 5, v, W => ∃ g2, v = .slice (some ⟨g2, 0, none⟩) 1 1 ∧ B ≤ g2 ∧ W.heap[g2]? = some (.cells #[.string { data := #[] }, .bool false, .slice none 0 0, .int .i64 0, .int .i64 0, .string { data := #[] }, .slice none 0 0, .slice none 0 0, .slice ba 998 bc, .slice none 0 0] 50 (0, 0))
  | 6, v, W => W.ownsRow base 50 10 v (k + 1) (prL ba bc (k + 1))
  | 7, v, _ => v = .pointer (some ⟨M0, 6, none⟩)
  | _, _, _ => True
theorem psiP_keep (M0 B base k : Nat) (v0 : Value) (ba : Option Addr) (i bc : Nat) (hF : ∀ r, v0.ownBlock = some r → r < B) : ∀ m j v W W', (m = 6 → j ≠ 6) → PsiP M0 B base k v0 ba i bc m v W → RV v0 j W W' → PsiP M0 B base k v0 ba i bc m v W'
  | 0, _, _, _, _, _, h, _ => h
  | 1, _, _, _, _, _, h, _ => h
  | 2, _, _, _, _, _, h, _ => h
  | 3, _, _, _, _, _, h, _ => h
  | 4, _, _, _, _, _, h, _ => h
  | 5, _, _, _, _, _, ⟨g2, e, hb2, hv⟩, r => ⟨g2, e, hb2, r.heap hF hb2 hv⟩
  | 6, _, _, _, _, hk, ho, r => World.ownsRow.kept ho (grown_of_below (r.below (hk rfl))) (by cases h : Value.ownBlock _ <;> simp)
  | 7, _, _, _, _, _, h, _ => h
  | _ + 8, _, _, _, _, _, _, _ => trivial
set_option maxHeartbeats 12800000 in
theorem needLimits_2 (w : World) (a0 a1 : Int) (a2 : Bool) (q : Nat) (h0 : 0 ≤ a0 ∧ a0 ≤ 255) (h1 : 0 ≤ a1 ∧ a1 ≤ 255) (hw : a0 % 3 = 2) (hq : a1 % 5 = (q : Int)) (hq4 : q ≤ 4) :
    Calls Try.prog 3 #[.int .u8 a0, .int .u8 a1, .bool a2] w fun e w' => e = .returned (.bool true) ∧ Below w.heap.size w w' := by
  obtain ⟨p0, p1⟩ := h0
  obtain ⟨p2, p3⟩ := h1
  go_enter Try.func3, Try.ntmps3
  go_wp2_with fail
  refine (known_prog w).mono ?_
  rintro en w1 ⟨rfl, hbk⟩
  have HB1 := Lib.hid hbk
  clear hbk
  go_wp2_with fail
  obtain ⟨w2, hw2⟩ : ∃ w2 : World, w2 = w1.alloc (.cells #[.string { data := #[77] }, .slice none 0 0, .slice none 0 0, .slice none 0 0, .slice none 0 0, .slice none 0 0, .slice none 0 0, .slice none 0 0] 30) := ⟨_, rfl⟩
  rw [← hw2]
  have HM2 := Lib.hid (show w2.heap[w1.heap.size]? = some (.cells (mdC (.slice none 0 0) (.slice none 0 0) (.slice none 0 0)) 30 (0, 0)) from by rw [hw2]; exact heap_alloc_new w1 _)
  have HB2 := Lib.hid (show Below w.heap.size w w2 from by rw [hw2]; exact HB1.out.alloc HB1.out.size _)
  have HZ2 := Lib.hid (show w1.heap.size + 1 ≤ w2.heap.size from by rw [hw2]; simp)
  have hs1 := HB1.out.size
  clear hw2
  simp only [hq, hw, Int.reduceEq, decide_true, decide_false]
  go_loopw [12, 13] (fun v z wr => ∃ (i : Nat) (ba : Option Addr) (bc : Nat), z = .int .i64 (i : Int) ∧ v = .slice ba i bc ∧ i ≤ 1000 ∧ wr.heap[w1.heap.size]? = some (.cells (mdC (.slice none 0 0) (.slice none 0 0) (.slice none 0 0)) 30 (0, 0)) ∧ wr.ownsRow (w1.heap.size + 1) 40 4 (.slice ba i bc) i (stsL i) ∧ Below w.heap.size w wr ∧ w1.heap.size + 1 ≤ wr.heap.size) (fun _ z _ => 1000 - (intOf z).toNat)
  case atStart => exact ⟨0, none, 0, rfl, rfl, by omega, HM2.out, World.ownsRow_nil _ _ _ _, HB2.out, HZ2.out⟩
  case round =>
    obtain ⟨i, ba, bc, rfl, rfl, hi, hm, how, hb, hsz⟩ := hrel
    obtain ⟨wo, rfl⟩ : ∃ wo : World, wo = wr := ⟨_, rfl⟩
    have HM := Lib.hid hm
    have HB := Lib.hid hb
    have HOW := Lib.hid how
    have hlz := (Array.getElem?_eq_some_iff.1 hm).1
    clear hm how hb
    by_cases hlt : i < 1000
    · have hal : Below wo.heap.size wo (wo.alloc (.cells #[.int .i64 17, .slice none 0 0, .slice none 0 0, .slice none 0 0] 40)) := (Below.refl _ _).alloc (Nat.le_refl _) _
      have HAL := Lib.hid hal
      have HRD := Lib.hid (rd_new wo putL4 40 1 4 rfl (by simp [maxLen]))
      have HOA := Lib.hid (HOW.out.alloc (.cells #[.int .i64 17, .slice none 0 0, .slice none 0 0, .slice none 0 0] 40))
      clear hal
      go_wp2_with (at_builtin; refine app_own _ elemStmt rfl _ _ rfl (w1.heap.size + 1) (.slice ba i bc) i (stsL i) rfl HOA.out _ 1 putL4 rfl HRD.out putL4_one (by simp only [maxLen]; omega) (by omega) (by simp; omega) ?_; intro v3 w3 ho3 hg3)
      obtain ⟨va, vc, rfl, _, _, _⟩ := owns_shape ho3
      have HO3 := Lib.hid ho3
      have HM3 := Lib.hid (blk_grown (blk_alloc HM.out _) hg3 (fun e => by have := (owns_ty HOA.out _ e).1; omega))
      have HB3 := Lib.hid (below_of_grown (HB.out.trans (HAL.out.mono HB.out.size)) (Nat.le_trans HB.out.size HAL.out.size) HOA.out (by omega) rfl hg3)
      have hs3 : w1.heap.size + 1 ≤ w3.heap.size := Nat.le_trans hsz (Nat.le_trans HAL.out.size hg3.size)
      clear ho3 hg3
      go_wp2_with fail
      go_roundw
      case rel => exact ⟨i + 1, va, vc, by go_num, rfl, by omega, HM3.out, HO3.out, HB3.out, hs3⟩
      case measure => simp [intOf]; omega
    · have HI := Lib.hid (show i = 1000 by omega)
      obtain ⟨bb, bcc, ebb, _, _, hbcc1, hbcc2⟩ := owns_some HOW.out (by omega)
      have hbc2 : 998 ≤ bcc := by omega
      have hbc3 : bcc ≤ 9223372036854775807 := hbcc2
      obtain ⟨rfl, rfl⟩ : ba = some ⟨bb, 0, none⟩ ∧ bc = bcc := by injection ebb with e1 e2 e3; exact ⟨e1, e3⟩
      clear ebb hbcc1 hbcc2
      go_wp2_with fail
      go_loopw [14] (fun z wr => ∃ (k : Nat) (pa : Option Addr) (pc : Nat), z = .int .i64 (k : Int) ∧ k ≤ 8 ∧ wr.heap[w1.heap.size]? = some (.cells (mdC (.slice none 0 0) (.slice pa k pc) (.slice none 0 0)) 30 (0, 0)) ∧ wr.ownsRow (w1.heap.size + 1) 40 4 (.slice (some ⟨bb, 0, none⟩) i bc) i (stsL i) ∧ wr.ownsRow (w1.heap.size + 1) 50 10 (.slice pa k pc) k (prL (some ⟨bb, 0, none⟩) bc k) ∧ Below w.heap.size w wr ∧ w1.heap.size + 1 ≤ wr.heap.size) (fun z _ => 8 - (intOf z).toNat)
      case atStart => exact ⟨0, none, 0, rfl, by omega, HM.out, HOW.out, World.ownsRow_nil _ _ _ _, HB.out, hsz⟩
      case round =>
        obtain ⟨k, pa, pc, rfl, hk8, hm, hop, hpw, hb, hsz2⟩ := hrel
        obtain ⟨wp, rfl⟩ : ∃ wp : World, wp = wr := ⟨_, rfl⟩
        have HMO := Lib.hid hm
        have HOP := Lib.hid hop
        have HPW := Lib.hid hpw
        have HBP := Lib.hid hb
        have HS1 := Lib.hid hsz2
        have HFT := Lib.hid (owns_ty hpw)
        have HFL := Lib.hid (fun r (hr : Value.ownBlock (.slice pa k pc) = some r) => (owns_ty hpw r hr).2.1)
        have HM0 := Lib.hid (show ¬ Value.ownBlock (.slice pa k pc) = some w1.heap.size from fun e => by have := (owns_ty hpw _ e).1; omega)
        have HML := Lib.hid (show w1.heap.size < wp.heap.size by omega)
        have HC6 := Lib.hid (show wp.cell? ⟨w1.heap.size, 6, none⟩ = some (.slice pa k pc) from rowC hm 6 _)
        clear hm hop hpw hb
        by_cases hl8 : k < 8
        · go_upto_region 14 with fail
          have hlti : (k : Int) < 8 := by omega
          simp only [hlti, decide_true]
          clear hlti
          have hIV0 : IV (.slice pa k pc) 6 wp.drew (Array.replicate (8 + 1) false) wp.drew := ⟨Fr.refl _ _, fun _ => Below.refl _ _⟩
          have hbd : Below wp.heap.size wp wp.drew := (Below.refl _ _).drew
          refine drawn_slots (N := 8) (I := IV (.slice pa k pc) 6 wp.drew) (R := fun j => RV (.slice pa k pc) (pm28 j)) [38, 39, 40, 41, 42, 43, 44, 45] (iV_step pm28 (fun _ => Iff.rfl) (by decide)) hIV0 rfl (fun m => PsiP w1.heap.size wp.heap.size (w1.heap.size + 1) k (.slice pa k pc) (some ⟨bb, 0, none⟩) i bc (pm28 m)) rfl (by kernel_rfl) (by kernel_rfl) (fun a b v W W' hab hps hr => psiP_keep _ _ _ _ _ _ _ _ HFL.out (pm28 a) (pm28 b) v W W' (fun h1 h2 => hab ((show a = 6 from h1).trans (show b = 6 from h2).symm)) hps hr) ?_ ?_
          · intro j hj L x W K hL hi hp hK
            match j, hj with
            | 0, _ =>
              simp only [putL, upd, Nat.reduceBEq, Nat.reduceAdd, cond_true, cond_false, Act.put, List.setIfInBounds_toArray, List.set_cons_zero, List.set_cons_succ] at hK ⊢
              refine wpOp_step (o := ?_) ?_ (fun K' hK' => ?_)
              rotate_left
              focus (simp only [List.getElem?_toArray, List.getElem?_cons_succ, List.getElem?_cons_zero] <;> rfl)
              go_simp
              exact hK' _ _ (hK _ _ rfl (RV.mk (by decide) (Below.refl _ _)))
            | 1, _ =>
              have e0 : x 0 = _ := hp 0 (by kernel_rfl)
              have cW : W.cell? ⟨w1.heap.size, 6, none⟩ = some (.slice pa k pc) := (hi.1.cell (p := ⟨w1.heap.size, 6, none⟩) (by exact HML.out) (by exact HM0.out)).trans HC6.out
              simp only [putL, upd, Nat.reduceBEq, Nat.reduceAdd, cond_true, cond_false, Act.put, List.setIfInBounds_toArray, List.set_cons_zero, List.set_cons_succ] at hK ⊢
              generalize x 0 = y0 at hK e0 ⊢
              subst e0
              refine wpOp_step (o := ?_) ?_ (fun K' hK' => ?_)
              rotate_left
              focus (simp only [List.getElem?_toArray, List.getElem?_cons_succ, List.getElem?_cons_zero] <;> rfl)
              go_simp
              exact hK' _ _ (hK _ _ rfl (RV.mk (by decide) (Below.refl _ _)))
            | 2, _ =>
              simp only [putL, upd, Nat.reduceBEq, Nat.reduceAdd, cond_true, cond_false, Act.put, List.setIfInBounds_toArray, List.set_cons_zero, List.set_cons_succ] at hK ⊢
              refine wpOp_step (o := ?_) ?_ (fun K' hK' => ?_)
              rotate_left
              focus (simp only [List.getElem?_toArray, List.getElem?_cons_succ, List.getElem?_cons_zero] <;> rfl)
              go_simp
              exact hK' _ _ (hK _ _ rfl (RV.mk (by decide) (Below.refl _ _)))
            | 3, _ =>
              have e2 : x 2 = _ := hp 2 (by kernel_rfl)
              simp only [putL, upd, Nat.reduceBEq, Nat.reduceAdd, cond_true, cond_false, Act.put, List.setIfInBounds_toArray, List.set_cons_zero, List.set_cons_succ] at hK ⊢
              generalize x 2 = y2 at hK e2 ⊢
              subst e2
              refine wpOp_step (o := ?_) ?_ (fun K' hK' => ?_)
              rotate_left
              focus (simp only [List.getElem?_toArray, List.getElem?_cons_succ, List.getElem?_cons_zero] <;> rfl)
              go_simp
              rw [if_pos (show (998 : Int) ≤ (bc : Int) by omega)]
              exact hK' _ _ (hK _ _ rfl (RV.mk (by decide) (Below.refl _ _)))
            | 4, _ =>
              have e3 : x 3 = _ := hp 3 (by kernel_rfl)
              simp only [putL, upd, Nat.reduceBEq, Nat.reduceAdd, cond_true, cond_false, Act.put, List.setIfInBounds_toArray, List.set_cons_zero, List.set_cons_succ] at hK ⊢
              generalize x 3 = y3 at hK e3 ⊢
              subst e3
              refine wpOp_step (o := ?_) ?_ (fun K' hK' => ?_)
              rotate_left
              focus (simp only [List.getElem?_toArray, List.getElem?_cons_succ, List.getElem?_cons_zero] <;> rfl)
              go_simp
              exact hK' _ _ (hK _ _ rfl (RV.mk (by decide) (Below.refl _ _)))
            | 5, _ =>
              have e4 : x 4 = _ := hp 4 (by kernel_rfl)
              have hsw : wp.heap.size ≤ W.heap.size := hi.1.size
              simp only [putL, upd, Nat.reduceBEq, Nat.reduceAdd, cond_true, cond_false, Act.put, List.setIfInBounds_toArray, List.set_cons_zero, List.set_cons_succ] at hK ⊢
              generalize x 4 = y4 at hK e4 ⊢
              subst e4
              refine wpOp_step (o := ?_) ?_ (fun K' hK' => ?_)
              rotate_left
              focus (simp only [List.getElem?_toArray, List.getElem?_cons_succ, List.getElem?_cons_zero] <;> rfl)
              go_simp
              exact hK' _ _ (hK _ _ ⟨_, rfl, hsw, heap_alloc_new W _⟩ (RV.mk (by decide) ((Below.refl _ _).alloc (Nat.le_refl _) _)))
            | 6, _ =>
              have e1 : x 1 = _ := hp 1 (by kernel_rfl)
              obtain ⟨g2, e5, hg2, tv⟩ := hp 5 (by kernel_rfl)
              have hoW := HPW.out.kept (grown_of_below (hbd.trans ((hi.2 hL).mono (Nat.le_refl _)))) (by cases h : Value.ownBlock (.slice pa k pc) <;> simp)
              have hrd : Rd W 10 (.slice (some ⟨g2, 0, none⟩) 1 1) 1 (procL (some ⟨bb, 0, none⟩) bc) := Rd.of_cells rfl (Nat.le_refl _) (by simp [maxLen]) fun j u hu => by rw [Nat.zero_add]; exact rowC tv j u (by simpa [procL] using hu)
              have hsz2 : w1.heap.size + 1 ≤ W.heap.size := Nat.le_trans HS1.out hi.1.size
              simp only [putL, upd, Nat.reduceBEq, Nat.reduceAdd, cond_true, cond_false, Act.put, List.setIfInBounds_toArray, List.set_cons_zero, List.set_cons_succ] at hK ⊢
              generalize x 1 = y1 at hK e1 ⊢
              subst e1
              generalize x 5 = y5 at hK e5 ⊢
              subst e5
              refine wpOp_step (o := ?_) ?_ (fun K' hK' => ?_)
              rotate_left
              focus (simp only [List.getElem?_toArray, List.getElem?_cons_succ, List.getElem?_cons_zero] <;> rfl)
              refine step_app_own elemProc rfl _ _ rfl (w1.heap.size + 1) (.slice pa k pc) k (prL (some ⟨bb, 0, none⟩) bc k) rfl hoW ⟨g2, 0, none⟩ 1 1 (procL (some ⟨bb, 0, none⟩) bc) rfl hrd (by decide) (procL_one _ _) (by simp only [maxLen]; omega) (by omega) hsz2 (fun v' W' ho' hg' => ?_)
              exact hK' _ _ (hK _ _ ho' (RV.mk6 hg'))
            | 7, _ =>
              simp only [putL, upd, Nat.reduceBEq, Nat.reduceAdd, cond_true, cond_false, Act.put, List.setIfInBounds_toArray, List.set_cons_zero, List.set_cons_succ] at hK ⊢
              refine wpOp_step (o := ?_) ?_ (fun K' hK' => ?_)
              rotate_left
              focus (simp only [List.getElem?_toArray, List.getElem?_cons_succ, List.getElem?_cons_zero] <;> rfl)
              go_simp
              exact hK' _ _ (hK _ _ rfl (RV.mk (by decide) (Below.refl _ _)))
          · intro L x W K hi hp hK
            have e7 : x 7 = _ := hp 7 (by decide)
            have ho : W.ownsRow (w1.heap.size + 1) 50 10 (x 6) (k + 1) (prL (some ⟨bb, 0, none⟩) bc (k + 1)) := hp 6 (by decide)
            obtain ⟨pa2, pc2, e6, k1, k2, _⟩ := owns_shape ho
            rw [e6] at ho
            simp only [putL, upd, Nat.reduceBEq, Nat.reduceAdd, cond_true, cond_false, Act.put, List.setIfInBounds_toArray, List.set_cons_zero, List.set_cons_succ] at hK ⊢
            generalize x 7 = y7 at e7 ⊢
            subst e7
            generalize x 6 = y6 at e6 ⊢
            subst e6
            have hmW : W.heap[w1.heap.size]? = _ := (hi.1.block _ HML.out HM0.out).trans HMO.out
            have c6 := rowC hmW 6 _
            have g6 := frozen_of_row W w1.heap.size 6 _ _ hmW
            have HMW := Lib.hid hmW
            have HHO := Lib.hid ho
            have HFR := Lib.hid hi.1
            clear hmW ho hi hp
            refine wpOp_step (o := ?_) ?_ (fun K' hK' => ?_)
            rotate_left
            focus (simp only [List.getElem?_toArray, List.getElem?_cons_succ, List.getElem?_cons_zero] <;> rfl)
            go_simp
            refine hK' _ _ (hK _ _ ?_)
            clear hK hK' c6 g6
            go_wp2_with fail
            go_roundw
            case rel =>
              have hbW : Below w.heap.size w W := (HBP.out.drew).trans (HFR.out.below (B := w.heap.size) (by show w.heap.size ≤ wp.heap.size; have := HS1.out; omega) (fun r hr h => by have := (HFT.out r h).1; omega))
              have hsW : w1.heap.size + 1 ≤ W.heap.size := Nat.le_trans HS1.out HFR.out.size
              have hob : W.ownsRow (w1.heap.size + 1) 40 4 (.slice (some ⟨bb, 0, none⟩) i bc) i (stsL i) := HFR.out.owns (a := wp.drew) HOP.out (fun r hr hf => by
                obtain ⟨_, _, cu, e⟩ := HFT.out r hf
                obtain ⟨_, _, cv, e'⟩ := owns_ty HOP.out r hr
                rw [e] at e'
                injection e' with e'
                injection e' with _ e'
                exact absurd e' (by decide))
              exact ⟨k + 1, pa2, pc2, by go_num, by omega, Eq.trans (heap_setCell_same _ w1.heap.size 6 _ _ _ HMW.out) rfl, owns_set_other hob _ _ (fun e => by have := (owns_ty hob _ e).1; simp at this; omega), owns_set_other HHO.out _ _ (fun e => by have := (owns_ty HHO.out _ e).1; simp at this; omega), hbW.setCell (by show w.heap.size ≤ w1.heap.size; omega) _, by simp [World.setCell]; omega⟩
            case measure => simp [intOf]; omega
        · have hk : k = 8 := by omega
          have HK8 := Lib.hid hk
          clear hk
          have hq2 : (0 : Int) ≤ 8 + ((q : Int) - 2) := by omega
          have hq3 : 8 + ((q : Int) - 2) ≤ (bc : Int) := by omega
          have g7 := frozen_of_row wp w1.heap.size 7 _ _ HMO.out
          have c7 := rowC HMO.out 7 _
          go_upto_region 30 with fail
          rw [show (8 + ((q : Int) - 2)).toNat = 6 + q by omega]
          obtain ⟨k1, k2⟩ : k ≤ pc ∧ pc ≤ 9223372036854775807 := by
            obtain ⟨_, _, e, h1, h2, _⟩ := owns_shape HPW.out
            cases e
            simp only [maxLen] at h2
            exact ⟨h1, h2⟩
          obtain ⟨wz, hwz⟩ : ∃ wz : World, wz = wp.setCell ⟨w1.heap.size, 7, none⟩ (.slice (some ⟨bb, 0, none⟩) (6 + q) bc) := ⟨_, rfl⟩
          have hmz : wz.heap[w1.heap.size]? = some (.cells (mdC (.slice none 0 0) (.slice pa k pc) (.slice (some ⟨bb, 0, none⟩) (6 + q) bc)) 30 (0, 0)) := by rw [hwz]; exact Eq.trans (heap_setCell_same _ w1.heap.size 7 _ _ _ HMO.out) rfl
          have how2 := owns_set_other HOP.out ⟨w1.heap.size, 7, none⟩ (.slice (some ⟨bb, 0, none⟩) (6 + q) bc) (fun e => by have := (owns_ty HOP.out _ e).1; simp at this; omega)
          have hpw2 := owns_set_other HPW.out ⟨w1.heap.size, 7, none⟩ (.slice (some ⟨bb, 0, none⟩) (6 + q) bc) (fun e => by have := (owns_ty HPW.out _ e).1; simp at this; omega)
          rw [← hwz] at how2 hpw2 ⊢
          have hgood : Good wz (moP pa k pc (some ⟨bb, 0, none⟩) (6 + q) bc) (fun _ => 0) (some ⟨bb, 0, none⟩) 998 bc (fun _ => putS) (fun _ => putS) := good_P (prsAt_row (rd_of_owns hpw2)) (stsAt_put (rd_of_owns how2) 998 (by have := HI.out; omega)) (stsAt_put (rd_of_owns how2) (6 + q) (by have := HI.out; omega)) k1 k2 (by omega) hbc2 (by omega) hbc3
          have hu : unitsM (moP pa k pc (some ⟨bb, 0, none⟩) (6 + q) bc).np 998 (fun _ => putS) (moP pa k pc (some ⟨bb, 0, none⟩) (6 + q) bc).nb (fun _ => putS) = 7998 + q := by
            show unitsM k 998 (fun _ => putS) (6 + q) (fun _ => putS) = 7998 + q
            rw [unitsM_put, HK8.out]; omega
          have hmo : mostM (moP pa k pc (some ⟨bb, 0, none⟩) (6 + q) bc).np 998 (fun _ => putS) (moP pa k pc (some ⟨bb, 0, none⟩) (6 + q) bc).nb (fun _ => putS) ≤ 12 := by rw [mostM_put]; omega
          have HCK1 := Lib.hid (fun V (b : Nat) (E : Int) (hv : Below wz.heap.size wz V) (hb : V.heap[b]? = some (.cells (mdC (.slice none 0 0) (.slice pa k pc) (.slice (some ⟨bb, 0, none⟩) (6 + q) bc)) 30 (0, 0))) (hE : (7998 + q ≤ 8000 ∧ E = 0) ∨ (¬ 7998 + q ≤ 8000 ∧ E = 45)) => checkE1 (c := 1) (sz := 0) (hgood.below hv) (by obtain ⟨n0, n1, n2, n3, n4, n5, n6, n7⟩ := mdC_cells hb; exact ⟨n0, n1, n2, n3, n4, n5, n6, n7⟩) rfl (by decide) (by decide) hmo rfl E (by rcases hE with ⟨h, rfl⟩ | ⟨h, rfl⟩; exact (if_pos ⟨by omega, by omega⟩).symm; exact (if_neg (fun k => h (by have := k.2; omega))).symm))
          have HCK2 := Lib.hid (fun V (b c : Nat) (E : Int) (hv : Below wz.heap.size wz V) (hc : ∀ j u, ((moP pa k pc (some ⟨bb, 0, none⟩) (6 + q) bc).arr.toList ++ moN.arr.toList)[j]? = some u → V.cell? ⟨b, 0 + j, none⟩ = some u) (h1 : 1 + 1 ≤ c) (h2 : c ≤ 9223372036854775807) (hE : (7998 + q ≤ 8000 ∧ E = 0) ∨ (¬ 7998 + q ≤ 8000 ∧ E = 45)) => checkE2 (sz := 0) (hgood.below hv) (moAt_of hc 0 (moP pa k pc (some ⟨bb, 0, none⟩) (6 + q) bc) (fun i hi => by rw [List.getElem?_append_left (by rw [arr_len]; omega), Nat.zero_add])) (moAt_of hc 8 moN (fun i hi => by rw [List.getElem?_append_right (by rw [arr_len]; omega), arr_len, Nat.add_sub_cancel_left])) rfl h1 h2 hmo rfl E (by rcases hE with ⟨h, rfl⟩ | ⟨h, rfl⟩; exact (if_pos ⟨by omega, by omega⟩).symm; exact (if_neg (fun k => h (by have := k.2; omega))).symm))
          have HBW := Lib.hid (show Below w.heap.size w wz from by rw [hwz]; exact HBP.out.setCell (by show w.heap.size ≤ w1.heap.size; omega) _)
          have HMZ := Lib.hid hmz
          have hlz := (Array.getElem?_eq_some_iff.1 hmz).1
          clear hwz hmz how2 hpw2 hgood hu hmo g7 c7 hq2 hq3
          cases a2 <;> by_cases hR : (q : Int) - 2 ≤ 0
          · obtain ⟨m0, m1, m2, m3, m4, m5, m6, m7⟩ := mdC_cells HMZ.out
            go_wp2_with fail
            have hba : Below wz.heap.size wz (wz.alloc (.cells #[.string { data := #[77] }, .slice none 0 0, .slice none 0 0, .slice none 0 0, .slice none 0 0, .slice none 0 0, .slice pa k pc, .slice (some ⟨bb, 0, none⟩) (6 + q) bc] 30)) := (Below.refl _ _).alloc (Nat.le_refl _) _
            refine (HCK1.out _ wz.heap.size 0 hba (heap_alloc_new wz _) (.inl ⟨by omega, rfl⟩)).mono ?_
            rintro en x1 ⟨rfl, hb⟩
            have BX := Lib.hid (HBW.out.trans ((hba.trans (hb.mono hba.size)).mono HBW.out.size))
            clear hb hba
            clear m0 m1 m2 m3 m4 m5 m6 m7
            go_wp2_with fail
            go_ret
            exact ⟨rfl, BX.out⟩
          · obtain ⟨m0, m1, m2, m3, m4, m5, m6, m7⟩ := mdC_cells HMZ.out
            go_wp2_with fail
            have hba : Below wz.heap.size wz (wz.alloc (.cells #[.string { data := #[77] }, .slice none 0 0, .slice none 0 0, .slice none 0 0, .slice none 0 0, .slice none 0 0, .slice pa k pc, .slice (some ⟨bb, 0, none⟩) (6 + q) bc] 30)) := (Below.refl _ _).alloc (Nat.le_refl _) _
            refine (HCK1.out _ wz.heap.size 45 hba (heap_alloc_new wz _) (.inr ⟨by omega, rfl⟩)).mono ?_
            rintro en x1 ⟨rfl, hb⟩
            have BX := Lib.hid (HBW.out.trans ((hba.trans (hb.mono hba.size)).mono HBW.out.size))
            clear hb hba
            clear m0 m1 m2 m3 m4 m5 m6 m7
            go_wp2_with fail
            go_ret
            first
            | exact ⟨rfl, BX.out⟩
            | exact ⟨by simp [hR]; omega, BX.out⟩
          · obtain ⟨m0, m1, m2, m3, m4, m5, m6, m7⟩ := mdC_cells HMZ.out
            have hba : Below wz.heap.size wz ((wz.alloc (.cells #[.string { data := #[77] }, .slice none 0 0, .slice none 0 0, .slice none 0 0, .slice none 0 0, .slice none 0 0, .slice pa k pc, .slice (some ⟨bb, 0, none⟩) (6 + q) bc] 30)).alloc (.cells #[.string { data := #[78] }, .slice none 0 0, .slice none 0 0, .slice none 0 0, .slice none 0 0, .slice none 0 0, .slice none 0 0, .slice none 0 0] 30)) := ((Below.refl _ _).alloc (Nat.le_refl _) _).alloc (by simp) _
            have hr1 : Rd ((wz.alloc (.cells #[.string { data := #[77] }, .slice none 0 0, .slice none 0 0, .slice none 0 0, .slice none 0 0, .slice none 0 0, .slice pa k pc, .slice (some ⟨bb, 0, none⟩) (6 + q) bc] 30)).alloc (.cells #[.string { data := #[78] }, .slice none 0 0, .slice none 0 0, .slice none 0 0, .slice none 0 0, .slice none 0 0, .slice none 0 0, .slice none 0 0] 30)) 8 (.slice (some ⟨wz.heap.size, 0, none⟩) 1 1) 1 (moP pa k pc (some ⟨bb, 0, none⟩) (6 + q) bc).arr.toList := rd_mo1 (by obtain ⟨n0, n1, n2, n3, n4, n5, n6, n7⟩ := mdC_cells (w := ((wz.alloc (.cells #[.string { data := #[77] }, .slice none 0 0, .slice none 0 0, .slice none 0 0, .slice none 0 0, .slice none 0 0, .slice pa k pc, .slice (some ⟨bb, 0, none⟩) (6 + q) bc] 30)).alloc (.cells #[.string { data := #[78] }, .slice none 0 0, .slice none 0 0, .slice none 0 0, .slice none 0 0, .slice none 0 0, .slice none 0 0, .slice none 0 0] 30))) (blk_alloc (heap_alloc_new wz _) _); exact ⟨n0, n1, n2, n3, n4, n5, n6, n7⟩) (by omega) (by omega)
            have hr2 : Rd ((wz.alloc (.cells #[.string { data := #[77] }, .slice none 0 0, .slice none 0 0, .slice none 0 0, .slice none 0 0, .slice none 0 0, .slice pa k pc, .slice (some ⟨bb, 0, none⟩) (6 + q) bc] 30)).alloc (.cells #[.string { data := #[78] }, .slice none 0 0, .slice none 0 0, .slice none 0 0, .slice none 0 0, .slice none 0 0, .slice none 0 0, .slice none 0 0] 30)) 8 (.slice (some ⟨wz.heap.size + 1, 0, none⟩) 1 1) 1 moN.arr.toList := by
              have := rd_new (wz.alloc (.cells #[.string { data := #[77] }, .slice none 0 0, .slice none 0 0, .slice none 0 0, .slice none 0 0, .slice none 0 0, .slice pa k pc, .slice (some ⟨bb, 0, none⟩) (6 + q) bc] 30)) moN.arr.toList 30 1 8 rfl (by simp [maxLen])
              rw [show (wz.alloc (.cells #[.string { data := #[77] }, .slice none 0 0, .slice none 0 0, .slice none 0 0, .slice none 0 0, .slice none 0 0, .slice pa k pc, .slice (some ⟨bb, 0, none⟩) (6 + q) bc] 30)).heap.size = wz.heap.size + 1 from by simp] at this
              exact this
            have HR1 := Lib.hid hr1
            have HR2 := Lib.hid hr2
            have HBA := Lib.hid hba
            clear hr1 hr2 hba
            go_wp2_with (at_builtin; refine app_full _ elemMod rfl _ _ rfl (some ⟨wz.heap.size, 0, none⟩) 1 (moP pa k pc (some ⟨bb, 0, none⟩) (6 + q) bc).arr.toList rfl HR1.out _ 1 moN.arr.toList rfl HR2.out (arr_one _) (by decide) (by decide) (by decide) ?_; intro v3 w3 ho3 hg3)
            obtain ⟨gg, cc, rfl, _, _, j3, j4⟩ := owns_some ho3 (by omega)
            obtain ⟨_, _, _, hsl, _, _, _, hcells⟩ := rd_of_owns ho3
            obtain ⟨bq, oq, hbo, hcells⟩ := hcells (by omega)
            obtain ⟨rfl, rfl⟩ : _ ∧ _ := by simpa using (by injection hsl with e1 e2 e3; exact e1.trans hbo : (some ⟨gg, 0, none⟩ : Option Addr) = some ⟨bq, oq, none⟩)
            have hb3 := HBA.out.trans ((below_of_grown_none (Below.refl _ _) (Nat.le_refl _) hg3).mono HBA.out.size)
            have HB3 := Lib.hid hb3
            have HC3 := Lib.hid hcells
            clear ho3 hg3 hsl hbo hcells hb3
            go_wp2_with fail
            refine (HCK2.out _ gg cc 0 HB3.out HC3.out j3 j4 (.inl ⟨by omega, rfl⟩)).mono ?_
            rintro en x1 ⟨rfl, hb⟩
            have BX := Lib.hid (HBW.out.trans ((HB3.out.trans (hb.mono HB3.out.size)).mono HBW.out.size))
            clear hb
            clear m0 m1 m2 m3 m4 m5 m6 m7
            go_wp2_with fail
            go_ret
            exact ⟨rfl, BX.out⟩
          · obtain ⟨m0, m1, m2, m3, m4, m5, m6, m7⟩ := mdC_cells HMZ.out
            have hba : Below wz.heap.size wz ((wz.alloc (.cells #[.string { data := #[77] }, .slice none 0 0, .slice none 0 0, .slice none 0 0, .slice none 0 0, .slice none 0 0, .slice pa k pc, .slice (some ⟨bb, 0, none⟩) (6 + q) bc] 30)).alloc (.cells #[.string { data := #[78] }, .slice none 0 0, .slice none 0 0, .slice none 0 0, .slice none 0 0, .slice none 0 0, .slice none 0 0, .slice none 0 0] 30)) := ((Below.refl _ _).alloc (Nat.le_refl _) _).alloc (by simp) _
            have hr1 : Rd ((wz.alloc (.cells #[.string { data := #[77] }, .slice none 0 0, .slice none 0 0, .slice none 0 0, .slice none 0 0, .slice none 0 0, .slice pa k pc, .slice (some ⟨bb, 0, none⟩) (6 + q) bc] 30)).alloc (.cells #[.string { data := #[78] }, .slice none 0 0, .slice none 0 0, .slice none 0 0, .slice none 0 0, .slice none 0 0, .slice none 0 0, .slice none 0 0] 30)) 8 (.slice (some ⟨wz.heap.size, 0, none⟩) 1 1) 1 (moP pa k pc (some ⟨bb, 0, none⟩) (6 + q) bc).arr.toList := rd_mo1 (by obtain ⟨n0, n1, n2, n3, n4, n5, n6, n7⟩ := mdC_cells (w := ((wz.alloc (.cells #[.string { data := #[77] }, .slice none 0 0, .slice none 0 0, .slice none 0 0, .slice none 0 0, .slice none 0 0, .slice pa k pc, .slice (some ⟨bb, 0, none⟩) (6 + q) bc] 30)).alloc (.cells #[.string { data := #[78] }, .slice none 0 0, .slice none 0 0, .slice none 0 0, .slice none 0 0, .slice none 0 0, .slice none 0 0, .slice none 0 0] 30))) (blk_alloc (heap_alloc_new wz _) _); exact ⟨n0, n1, n2, n3, n4, n5, n6, n7⟩) (by omega) (by omega)
            have hr2 : Rd ((wz.alloc (.cells #[.string { data := #[77] }, .slice none 0 0, .slice none 0 0, .slice none 0 0, .slice none 0 0, .slice none 0 0, .slice pa k pc, .slice (some ⟨bb, 0, none⟩) (6 + q) bc] 30)).alloc (.cells #[.string { data := #[78] }, .slice none 0 0, .slice none 0 0, .slice none 0 0, .slice none 0 0, .slice none 0 0, .slice none 0 0, .slice none 0 0] 30)) 8 (.slice (some ⟨wz.heap.size + 1, 0, none⟩) 1 1) 1 moN.arr.toList := by
              have := rd_new (wz.alloc (.cells #[.string { data := #[77] }, .slice none 0 0, .slice none 0 0, .slice none 0 0, .slice none 0 0, .slice none 0 0, .slice pa k pc, .slice (some ⟨bb, 0, none⟩) (6 + q) bc] 30)) moN.arr.toList 30 1 8 rfl (by simp [maxLen])
              rw [show (wz.alloc (.cells #[.string { data := #[77] }, .slice none 0 0, .slice none 0 0, .slice none 0 0, .slice none 0 0, .slice none 0 0, .slice pa k pc, .slice (some ⟨bb, 0, none⟩) (6 + q) bc] 30)).heap.size = wz.heap.size + 1 from by simp] at this
              exact this
            have HR1 := Lib.hid hr1
            have HR2 := Lib.hid hr2
            have HBA := Lib.hid hba
            clear hr1 hr2 hba
            go_wp2_with (at_builtin; refine app_full _ elemMod rfl _ _ rfl (some ⟨wz.heap.size, 0, none⟩) 1 (moP pa k pc (some ⟨bb, 0, none⟩) (6 + q) bc).arr.toList rfl HR1.out _ 1 moN.arr.toList rfl HR2.out (arr_one _) (by decide) (by decide) (by decide) ?_; intro v3 w3 ho3 hg3)
            obtain ⟨gg, cc, rfl, _, _, j3, j4⟩ := owns_some ho3 (by omega)
            obtain ⟨_, _, _, hsl, _, _, _, hcells⟩ := rd_of_owns ho3
            obtain ⟨bq, oq, hbo, hcells⟩ := hcells (by omega)
            obtain ⟨rfl, rfl⟩ : _ ∧ _ := by simpa using (by injection hsl with e1 e2 e3; exact e1.trans hbo : (some ⟨gg, 0, none⟩ : Option Addr) = some ⟨bq, oq, none⟩)
            have hb3 := HBA.out.trans ((below_of_grown_none (Below.refl _ _) (Nat.le_refl _) hg3).mono HBA.out.size)
            have HB3 := Lib.hid hb3
            have HC3 := Lib.hid hcells
            clear ho3 hg3 hsl hbo hcells hb3
            go_wp2_with fail
            refine (HCK2.out _ gg cc 45 HB3.out HC3.out j3 j4 (.inr ⟨by omega, rfl⟩)).mono ?_
            rintro en x1 ⟨rfl, hb⟩
            have BX := Lib.hid (HBW.out.trans ((HB3.out.trans (hb.mono HB3.out.size)).mono HBW.out.size))
            clear hb
            clear m0 m1 m2 m3 m4 m5 m6 m7
            go_wp2_with fail
            go_ret
            first
            | exact ⟨rfl, BX.out⟩
            | exact ⟨by simp [hR]; omega, BX.out⟩
end Go.Proofs.Ytmidkomdmnncoaa
