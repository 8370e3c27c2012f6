/- Need: the walk of NeedLimits, way 1: how many words. (Printed by wip/scripts/gen_nd24.py.) -/
import Derived.Test.YtmidkomdmnncoaaNd23
import Derived.Test.YtmidkomdmnncoaaNd25
import Derived.IntWalk
namespace Go.Proofs.Ytmidkomdmnncoaa
open Go.RowKit Go.Waf
set_option maxRecDepth 100000
set_option linter.unusedVariables false
set_option linter.unusedSimpArgs false

def varL (n : Int) (g : Nat) : List Value := [.string { data := #[] }, .bool false, .int .i64 7, .int .i64 n, .string { data := #[] }, .slice (some ⟨g, 0, none⟩) 1 1]
/-- k variables, in a list of cells. -/
def VRow (ns : Nat → Nat) (W : World) : Nat → List Value → Prop
  | 0, xs => xs = []
  | k + 1, xs => ∃ ys g, xs = ys ++ varL (ns k) g ∧ TyG W g ∧ VRow ns W k ys
theorem VRow.keep {ns : Nat → Nat} {W W' : World} (h : ∀ g, TyG W g → TyG W' g) : ∀ k xs, VRow ns W k xs → VRow ns W' k xs
  | 0, xs, e => e
  | k + 1, xs, ⟨ys, g, e, hg, hr⟩ => ⟨ys, g, e, h g hg, VRow.keep h k ys hr⟩
theorem VRow.len {ns : Nat → Nat} {W : World} : ∀ k xs, VRow ns W k xs → xs.length = k * 6
  | 0, xs, e => by rw [show xs = [] from e]; rfl
  | k + 1, xs, ⟨ys, g, e, hg, hr⟩ => by rw [e, List.length_append, VRow.len k ys hr]; simp [varL]; omega
theorem VRow.at {ns : Nat → Nat} {W : World} : ∀ k xs, VRow ns W k xs → ∀ j, j < k → ∃ g, TyG W g ∧ ∀ i u, (varL (ns j) g)[i]? = some u → xs[j * 6 + i]? = some u
  | 0, _, _, j, h => absurd h (by omega)
  | k + 1, xs, ⟨ys, g, e, hg, hr⟩, j, h => by
    have hl := VRow.len k ys hr
    by_cases hj : j = k
    · subst hj
      refine ⟨g, hg, fun i u hu => ?_⟩
      rw [e, List.getElem?_append_right (by omega), hl, Nat.add_sub_cancel_left]; exact hu
    · obtain ⟨g', hg', hc⟩ := VRow.at k ys hr j (by omega)
      refine ⟨g', hg', fun i u hu => ?_⟩
      have := hc i u hu
      rw [e, List.getElem?_append_left (Array.getElem?_eq_some_iff.1 (by simpa using this) |>.1)]; exact this
theorem vsAt_row {ns : Nat → Nat} {W : World} {a : Option Addr} {k c : Nat} {xs : List Value} (hr : Rd W 6 (.slice a k c) k xs) (h : VRow ns W k xs) (hn : ∀ j, 1 ≤ ns j ∧ ns j ≤ 1024) : VsAt W a k (fun j => (ns j : Int)) := fun h0 => by
  obtain ⟨_, a', c', e, _, _, _, hc⟩ := hr
  cases e
  obtain ⟨b, o, rfl, hc2⟩ := hc h0
  refine ⟨b, o, rfl, fun j hj => ?_⟩
  obtain ⟨g, hg, hx⟩ := VRow.at k xs h j hj
  exact vAt_arr (g := g) (nm := { data := #[] }) (fun i u hu => by rw [Nat.add_assoc]; exact hc2 _ u (hx i u (by simpa [varL] using hu))) hg (hn j).1 (hn j).2
/-- The first sixteen, the last. -/
def nsW (q : Nat) (j : Nat) : Nat := if j < 16 then 1023 else 14 + q
theorem nsW_sum (q : Nat) : sumK (fun j => (nsW q j : Int)) 17 = ((16382 + q : Nat) : Int) := by
  simp [sumK, nsW]; omega
/-- What each operation leaves of 'append a variable'. -/
def PsiV (M0 B base i : Nat) (v0 : Value) (n d : Int) (xs : List Value) : Nat → Value → World → Prop
  | 0, v, _ => v = .pointer (some ⟨M0, 5, none⟩)
  | 1, v, _ => v = v0
  | 2, v, _ => v = .agg #[.int .i64 1, .int .i64 0, .string { data := #[] }, .slice none 0 0]
  | 3, v, W => ∃ g, v = .agg #[.int .i64 7, .int .i64 n, .string { data := #[] }, .slice (some ⟨g, 0, none⟩) 1 1] ∧ B ≤ g ∧ TyG W g
  | 4, v, W => ∃ g, v = .agg #[.string { data := #[] }, .bool false, .int .i64 7, .int .i64 n, .string { data := #[] }, .slice (some ⟨g, 0, none⟩) 1 1] ∧ B ≤ g ∧ TyG W g
  | 5, v, W => ∃ g g2, v = .slice (some ⟨g2, 0, none⟩) 1 1 ∧ B ≤ g ∧ B ≤ g2 ∧ TyG W g ∧ W.heap[g2]? = some (.cells #[.string { data := #[] }, .bool false, .int .i64 7, .int .i64 n, .string { data := #[] }, .slice (some ⟨g, 0, none⟩) 1 1] 47 (0, 0))
  | 6, v, W => ∃ g, B ≤ g ∧ TyG W g ∧ W.ownsRow base 47 6 v (i + 1) (xs ++ varL n g)
  | 7, v, _ => v = .pointer (some ⟨M0, 5, none⟩)
  | 8, v, _ => v = .int .i64 d
  | 9, v, _ => v = .int .i64 n
  | _, _, _ => True
/-- What an operation does to the world: the append writes to the row, the others make what is new. -/
def RV (v0 : Value) (k : Nat) (W W' : World) : Prop := if k = 6 then W.grownBy W' v0.ownBlock else Below W.heap.size W W'
theorem RV.below {v0 : Value} {k : Nat} {W W' : World} (h : RV v0 k W W') (hk : k ≠ 6) : Below W.heap.size W W' := by unfold RV at h; rwa [if_neg hk] at h
theorem RV.grown {v0 : Value} {W W' : World} (h : RV v0 6 W W') : W.grownBy W' v0.ownBlock := by unfold RV at h; rwa [if_pos rfl] at h
theorem RV.heap {v0 : Value} {k g B : Nat} {W W' : World} {o : Obj} (h : RV v0 k W W') (hF : ∀ r, v0.ownBlock = some r → r < B) (hB : B ≤ g) (hg : W.heap[g]? = some o) : W'.heap[g]? = some o := by
  by_cases hk : k = 6
  · subst hk
    exact blk_grown hg h.grown fun e => by have := hF _ e; omega
  · exact heap_keep hg (h.below hk)
theorem psiV_keep (M0 B base i : Nat) (v0 : Value) (n d : Int) (xs : List Value) (hF : ∀ r, v0.ownBlock = some r → r < B) : ∀ k j v W W', (k = 6 → j ≠ 6) → PsiV M0 B base i v0 n d xs k v W → RV v0 j W W' → PsiV M0 B base i v0 n d xs k v W'
  | 0, _, _, _, _, _, h, _ => h
  | 1, _, _, _, _, _, h, _ => h
  | 2, _, _, _, _, _, h, _ => h
  | 3, _, _, _, _, _, ⟨g, e, hb, ht⟩, r => ⟨g, e, hb, r.heap hF hb ht⟩
  | 4, _, _, _, _, _, ⟨g, e, hb, ht⟩, r => ⟨g, e, hb, r.heap hF hb ht⟩
  | 5, _, _, _, _, _, ⟨g, g2, e, hb, hb2, ht, hv⟩, r => ⟨g, g2, e, hb, hb2, r.heap hF hb ht, r.heap hF hb2 hv⟩
  | 6, _, _, _, _, hk, ⟨g, hb, ht, ho⟩, r => ⟨g, hb, r.heap hF hb ht, ho.kept (grown_of_below (r.below (hk rfl))) (by cases h : Value.ownBlock _ <;> simp)⟩
  | 7, _, _, _, _, _, h, _ => h
  | 8, _, _, _, _, _, h, _ => h
  | 9, _, _, _, _, _, h, _ => h
  | _ + 10, _, _, _, _, _, _, _ => trivial
theorem RV.mk {v0 : Value} {k : Nat} {W W' : World} (hk : k ≠ 6) (h : Below W.heap.size W W') : RV v0 k W W' := by unfold RV; rwa [if_neg hk]
theorem RV.mk6 {v0 : Value} {W W' : World} (h : W.grownBy W' v0.ownBlock) : RV v0 6 W W' := by unfold RV; rwa [if_pos rfl]
/-- What holds meanwhile: all but the row's block is as it was; before the append that too. -/
def IV (v0 : Value) (ap : Nat) (wd : World) (L : Array Bool) (W : World) : Prop := Fr (fun k => v0.ownBlock = some k) wd W ∧ (L.getD ap false = false → Below wd.heap.size wd W)
theorem iV_step {v0 : Value} {N ap : Nat} {wd : World} (pm : Nat → Nat) (hpm : ∀ j, pm j = 6 ↔ j = ap) (hap : ap < N) : ∀ (L : Array Bool) j W W', L.size = N + 1 → j < N → L.getD j false = false → IV v0 ap wd L W → RV v0 (pm j) W W' → IV v0 ap wd (L.setIfInBounds j true) W' := fun L j W W' hs hj hL hi hr => by
  by_cases e : j = ap
  · subst e
    rw [(hpm j).2 rfl] at hr
    exact ⟨hi.1.trans (Fr.of_grown (F := fun k => v0.ownBlock = some k) hr.grown fun k e => e) fun _ _ h => h, fun h => by rw [getD_same L j (by omega)] at h; cases h⟩
  · have hb := hr.below fun h => e ((hpm j).1 h)
    exact ⟨hi.1.trans (F' := fun k => v0.ownBlock = some k) (Fr.of_new hb) fun _ _ h => h, fun h => by
      rw [getD_set_ne false e] at h
      exact (hi.2 h).trans (hb.mono (hi.2 h).size)⟩
theorem tyG_ne {W : World} {g p : Nat} {cs : Array Value} {T : TypeId} (hg : TyG W g) (hp : W.heap[p]? = some (.cells cs T (0, 0))) (hT : T ≠ 33) : g ≠ p := fun e => by
  have hg : W.heap[g]? = _ := hg
  rw [e, hp] at hg
  injection hg with hg
  injection hg with _ hg
  exact hT hg
theorem tyG_frame {v0 : Value} {wo W : World} {base : Nat} (hF : ∀ k, v0.ownBlock = some k → base ≤ k ∧ k < wo.heap.size ∧ ∃ cur, wo.heap[k]? = some (.cells cur 47 (0, 0))) (h : Fr (fun k => v0.ownBlock = some k) wo.drew W) {g : Nat} (hg : TyG wo g) : TyG W g :=
  (h.block g (Array.getElem?_eq_some_iff.1 hg).1 (fun hf => by obtain ⟨_, _, cur, e⟩ := hF g hf; exact tyG_ne hg e (by decide) rfl)).trans hg
def pm28 (k : Nat) : Nat := k
def pm29 : Nat → Nat
  | 0 => 0
  | 1 => 1
  | 2 => 8
  | 3 => 9
  | 4 => 2
  | 5 => 3
  | 6 => 4
  | 7 => 5
  | 8 => 6
  | 9 => 7
  | k + 10 => k + 10
theorem pm29_six : ∀ j, pm29 j = 6 ↔ j = 8
  | 0 => by decide
  | 1 => by decide
  | 2 => by decide
  | 3 => by decide
  | 4 => by decide
  | 5 => by decide
  | 6 => by decide
  | 7 => by decide
  | 8 => by decide
  | 9 => by decide
  | k + 10 => ⟨fun h => by have h : k + 10 = 6 := h; omega, fun h => by omega⟩
theorem varL_one (n : Int) (g : Nat) : ∀ u ∈ varL n g, u.oneCell' = true := by simp [varL, Value.oneCell']
theorem owns_ty {w : World} {base size n : Nat} {e : TypeId} {v : Value} {xs : List Value} (h : w.ownsRow base e size v n xs) : ∀ k, v.ownBlock = some k → base ≤ k ∧ k < w.heap.size ∧ ∃ cur, w.heap[k]? = some (.cells cur e (0, 0)) := fun k hk => by
  have hl := h.lt k hk
  refine ⟨hl.1, hl.2, ?_⟩
  rcases h.2 with ⟨rfl, _⟩ | ⟨g, cap, cur, rfl, _, hg, _⟩
  · cases hk
  · cases hk; exact ⟨cur, hg⟩
def moV (va : Option Addr) (nv vc : Nat) : Mo := Mo.mk { data := #[77] } va nv vc none 0 0 none 0 0
theorem good_V {W : World} {va : Option Addr} {nv vc : Nat} {ks : Nat → Int} (hv : VsAt W va nv ks) (hk : ∀ j, 0 ≤ ks j ∧ ks j ≤ 1024) (h1 : nv ≤ vc) (h2 : vc ≤ 9223372036854775807) (h3 : nv ≤ 100) : Good W (moV va nv vc) ks none 0 0 (fun _ => .none) (fun _ => .none) where
  v := hv
  k := hk
  nv := ⟨h1, h2, h3⟩
  p := fun h => absurd h (Nat.lt_irrefl 0)
  np := ⟨Nat.le_refl _, by show 0 ≤ 9223372036854775807; omega, by show 0 ≤ 1000; omega⟩
  q := fun h => absurd h (by omega)
  nq := ⟨Nat.le_refl _, by omega⟩
  b := fun h => absurd h (Nat.lt_irrefl 0)
  nb := ⟨Nat.le_refl _, by show 0 ≤ 9223372036854775807; omega⟩
  most := by show 0 ≤ 1000000; omega
  units := by show 0 ≤ 1000000; omega
set_option maxHeartbeats 12800000 in
theorem needLimits_1 (w : World) (a0 a1 : Int) (a2 : Bool) (q : Nat) (h0 : 0 ≤ a0 ∧ a0 ≤ 255) (h1 : 0 ≤ a1 ∧ a1 ≤ 255) (hw : a0 % 3 = 1) (hq : a1 % 5 = (q : Int)) (hq4 : q ≤ 4) :
    Calls Try.prog 3 #[.int .u8 a0, .int .u8 a1, .bool a2] w fun e w' => e = .returned (.bool true) ∧ Below w.heap.size w w' := by
  obtain ⟨p0, p1⟩ := h0
  obtain ⟨p2, p3⟩ := h1
  go_enter Try.func3, Try.ntmps3
  go_wp2_with fail
  refine (known_prog w).mono ?_
  rintro en w1 ⟨rfl, hbk⟩
  have HB1 := Lib.hid hbk
  clear hbk
  go_wp2_with fail
  obtain ⟨w2, hw2⟩ : ∃ w2 : World, w2 = w1.alloc (.cells #[.string { data := #[77] }, .slice none 0 0, .slice none 0 0, .slice none 0 0, .slice none 0 0, .slice none 0 0, .slice none 0 0, .slice none 0 0] 30) := ⟨_, rfl⟩
  rw [← hw2]
  have HM2 := Lib.hid (show w2.heap[w1.heap.size]? = some (.cells (mdC (.slice none 0 0) (.slice none 0 0) (.slice none 0 0)) 30 (0, 0)) from by rw [hw2]; exact heap_alloc_new w1 _)
  have HB2 := Lib.hid (show Below w.heap.size w w2 from by rw [hw2]; exact HB1.out.alloc HB1.out.size _)
  have HZ2 := Lib.hid (show w1.heap.size + 1 ≤ w2.heap.size from by rw [hw2]; simp)
  have hs1 := HB1.out.size
  clear hw2
  simp only [hq, hw, Int.reduceEq, decide_true, decide_false]
  go_loopw [11] (fun z wr => ∃ (i : Nat) (va : Option Addr) (vc : Nat) (xs : List Value), z = .int .i64 (i : Int) ∧ i ≤ 16 ∧ wr.heap[w1.heap.size]? = some (.cells (mdC (.slice va i vc) (.slice none 0 0) (.slice none 0 0)) 30 (0, 0)) ∧ wr.ownsRow (w1.heap.size + 1) 47 6 (.slice va i vc) i xs ∧ VRow (nsW q) wr i xs ∧ Below w.heap.size w wr ∧ w1.heap.size + 1 ≤ wr.heap.size) (fun z _ => 16 - (intOf z).toNat)
  case atStart => exact ⟨0, none, 0, [], rfl, by omega, HM2.out, World.ownsRow_nil _ _ _ _, rfl, HB2.out, HZ2.out⟩
  case round =>
    obtain ⟨i, va, vc, xs, rfl, hi16, hm, how, hvr, hb, hsz⟩ := hrel
    obtain ⟨wo, rfl⟩ : ∃ wo : World, wo = wr := ⟨_, rfl⟩
    have HMO := Lib.hid hm
    have HOW := Lib.hid how
    have HVR := Lib.hid hvr
    have HB := Lib.hid hb
    have HS1 := Lib.hid hsz
    have HFT := Lib.hid (owns_ty how)
    have HFL := Lib.hid (fun r (hr : Value.ownBlock (.slice va i vc) = some r) => (owns_ty how r hr).2.1)
    have HM0 := Lib.hid (show ¬ Value.ownBlock (.slice va i vc) = some w1.heap.size from fun e => by have := (owns_ty how _ e).1; omega)
    have HML := Lib.hid (show w1.heap.size < wo.heap.size by omega)
    have HC5 := Lib.hid (show wo.cell? ⟨w1.heap.size, 5, none⟩ = some (.slice va i vc) from rowC hm 5 _)
    clear hm how hvr hb
    by_cases hlt : i < 16
    · go_upto_region 28 with fail
      have hlti : (i : Int) < 16 := by omega
      simp only [hlti, decide_true]
      clear hlti
      obtain ⟨wd, hwd⟩ : ∃ wd : World, wd = wo.drew := ⟨_, rfl⟩
      have hdh : wd.heap = wo.heap := by rw [hwd]; rfl
      have hIV0 : IV (.slice va i vc) 6 wo.drew (Array.replicate (8 + 1) false) wo.drew := ⟨Fr.refl _ _, fun _ => Below.refl _ _⟩
      have hbd : Below wo.heap.size wo wo.drew := (Below.refl _ _).drew
      clear hwd hdh wd
      refine drawn_slots (N := 8) (I := IV (.slice va i vc) 6 wo.drew) (R := fun j => RV (.slice va i vc) (pm28 j)) [99, 100, 101, 102, 103, 104, 105, 106] (iV_step pm28 (fun _ => Iff.rfl) (by decide)) hIV0 rfl (fun k => PsiV w1.heap.size wo.heap.size (w1.heap.size + 1) i (.slice va i vc) 1023 0 xs (pm28 k)) rfl (by kernel_rfl) (by kernel_rfl) (fun a b v W W' hab hps hr => psiV_keep _ _ _ _ _ _ _ _ HFL.out (pm28 a) (pm28 b) v W W' (fun h1 h2 => hab ((((fun j => (Iff.rfl : pm28 j = 6 ↔ j = 6)) a).1 h1).trans (((fun j => (Iff.rfl : pm28 j = 6 ↔ j = 6)) b).1 h2).symm)) hps hr) ?_ ?_
      · intro j hj L x W K hL hi hp hK
        match j, hj with
        | 0, _ =>
          simp only [putL, upd, Nat.reduceBEq, Nat.reduceAdd, cond_true, cond_false, Act.put, List.setIfInBounds_toArray, List.set_cons_zero, List.set_cons_succ] at hK ⊢
          refine wpOp_step (o := ?_) ?_ (fun K' hK' => ?_)
          rotate_left
          focus (simp only [List.getElem?_toArray, List.getElem?_cons_succ, List.getElem?_cons_zero] <;> rfl)
          go_simp
          exact hK' _ _ (hK _ _ rfl (RV.mk (by decide) (Below.refl _ _)))
        | 1, _ =>
          have e0 : x 0 = _ := hp 0 (by kernel_rfl)
          have cW : W.cell? ⟨w1.heap.size, 5, none⟩ = some (.slice va i vc) := (hi.1.cell (p := ⟨w1.heap.size, 5, none⟩) (by exact HML.out) (by exact HM0.out)).trans HC5.out
          simp only [putL, upd, Nat.reduceBEq, Nat.reduceAdd, cond_true, cond_false, Act.put, List.setIfInBounds_toArray, List.set_cons_zero, List.set_cons_succ] at hK ⊢
          generalize x 0 = y0 at hK e0 ⊢
          subst e0
          refine wpOp_step (o := ?_) ?_ (fun K' hK' => ?_)
          rotate_left
          focus (simp only [List.getElem?_toArray, List.getElem?_cons_succ, List.getElem?_cons_zero] <;> rfl)
          go_simp
          exact hK' _ _ (hK _ _ rfl (RV.mk (by decide) (Below.refl _ _)))
        | 2, _ =>
          simp only [putL, upd, Nat.reduceBEq, Nat.reduceAdd, cond_true, cond_false, Act.put, List.setIfInBounds_toArray, List.set_cons_zero, List.set_cons_succ] at hK ⊢
          refine wpOp_step (o := ?_) ?_ (fun K' hK' => ?_)
          rotate_left
          focus (simp only [List.getElem?_toArray, List.getElem?_cons_succ, List.getElem?_cons_zero] <;> rfl)
          go_simp
          go_at_call 8
          refine (basic_prog _ _).mono ?_
          rintro e W' ⟨rfl, hbw⟩
          exact hK' _ _ (hK _ _ rfl (RV.mk (by decide) hbw))
        | 3, _ =>
          have e2 : x 2 = _ := hp 2 (by kernel_rfl)
          have hsw : wo.heap.size ≤ W.heap.size := hi.1.size
          simp only [putL, upd, Nat.reduceBEq, Nat.reduceAdd, cond_true, cond_false, Act.put, List.setIfInBounds_toArray, List.set_cons_zero, List.set_cons_succ] at hK ⊢
          generalize x 2 = y2 at hK e2 ⊢
          subst e2
          refine wpOp_step (o := ?_) ?_ (fun K' hK' => ?_)
          rotate_left
          focus (simp only [List.getElem?_toArray, List.getElem?_cons_succ, List.getElem?_cons_zero] <;> rfl)
          go_simp
          go_at_call 7
          refine (arr_prog _ _).mono ?_
          rintro e W' ⟨⟨g, rfl, hgs, tg⟩, hbw⟩
          exact hK' _ _ (hK _ _ ⟨g, rfl, Nat.le_trans hsw hgs, tg⟩ (RV.mk (by decide) hbw))
        | 4, _ =>
          obtain ⟨g, e3, hg, tg⟩ := hp 3 (by kernel_rfl)
          simp only [putL, upd, Nat.reduceBEq, Nat.reduceAdd, cond_true, cond_false, Act.put, List.setIfInBounds_toArray, List.set_cons_zero, List.set_cons_succ] at hK ⊢
          generalize x 3 = y3 at hK e3 ⊢
          subst e3
          refine wpOp_step (o := ?_) ?_ (fun K' hK' => ?_)
          rotate_left
          focus (simp only [List.getElem?_toArray, List.getElem?_cons_succ, List.getElem?_cons_zero] <;> rfl)
          go_simp
          exact hK' _ _ (hK _ _ ⟨g, rfl, hg, tg⟩ (RV.mk (by decide) (Below.refl _ _)))
        | 5, _ =>
          obtain ⟨g, e4, hg, tg⟩ := hp 4 (by kernel_rfl)
          have hsw : wo.heap.size ≤ W.heap.size := hi.1.size
          simp only [putL, upd, Nat.reduceBEq, Nat.reduceAdd, cond_true, cond_false, Act.put, List.setIfInBounds_toArray, List.set_cons_zero, List.set_cons_succ] at hK ⊢
          generalize x 4 = y4 at hK e4 ⊢
          subst e4
          refine wpOp_step (o := ?_) ?_ (fun K' hK' => ?_)
          rotate_left
          focus (simp only [List.getElem?_toArray, List.getElem?_cons_succ, List.getElem?_cons_zero] <;> rfl)
          go_simp
          exact hK' _ _ (hK _ _ ⟨g, _, rfl, hg, hsw, heap_keep tg ((Below.refl _ _).alloc (Nat.le_refl _) _), heap_alloc_new W _⟩ (RV.mk (by decide) ((Below.refl _ _).alloc (Nat.le_refl _) _)))
        | 6, _ =>
          have e1 : x 1 = _ := hp 1 (by kernel_rfl)
          obtain ⟨g, g2, e5, hg, hg2, tg, tv⟩ := hp 5 (by kernel_rfl)
          have hoW := HOW.out.kept (grown_of_below (hbd.trans ((hi.2 hL).mono (Nat.le_refl _)))) (by cases h : Value.ownBlock (.slice va i vc) <;> simp)
          have hrd : Rd W 6 (.slice (some ⟨g2, 0, none⟩) 1 1) 1 (varL 1023 g) := Rd.of_cells rfl (Nat.le_refl _) (by simp [maxLen]) fun j u hu => by rw [Nat.zero_add]; exact rowC tv j u (by simpa [varL] using hu)
          have hsz2 : w1.heap.size + 1 ≤ W.heap.size := Nat.le_trans HS1.out hi.1.size
          simp only [putL, upd, Nat.reduceBEq, Nat.reduceAdd, cond_true, cond_false, Act.put, List.setIfInBounds_toArray, List.set_cons_zero, List.set_cons_succ] at hK ⊢
          generalize x 1 = y1 at hK e1 ⊢
          subst e1
          generalize x 5 = y5 at hK e5 ⊢
          subst e5
          refine wpOp_step (o := ?_) ?_ (fun K' hK' => ?_)
          rotate_left
          focus (simp only [List.getElem?_toArray, List.getElem?_cons_succ, List.getElem?_cons_zero] <;> rfl)
          refine step_app_own elemVar rfl _ _ rfl (w1.heap.size + 1) (.slice va i vc) i xs rfl hoW ⟨g2, 0, none⟩ 1 1 (varL 1023 g) rfl hrd (by decide) (varL_one _ _) (by simp only [maxLen]; omega) (by omega) hsz2 (fun v' W' ho' hg' => ?_)
          exact hK' _ _ (hK _ _ ⟨g, hg, blk_grown tg hg' (fun e => by have := HFL.out _ e; omega), ho'⟩ (RV.mk6 hg'))
        | 7, _ =>
          simp only [putL, upd, Nat.reduceBEq, Nat.reduceAdd, cond_true, cond_false, Act.put, List.setIfInBounds_toArray, List.set_cons_zero, List.set_cons_succ] at hK ⊢
          refine wpOp_step (o := ?_) ?_ (fun K' hK' => ?_)
          rotate_left
          focus (simp only [List.getElem?_toArray, List.getElem?_cons_succ, List.getElem?_cons_zero] <;> rfl)
          go_simp
          exact hK' _ _ (hK _ _ rfl (RV.mk (by decide) (Below.refl _ _)))
      · intro L x W K hi hp hK
        have e7 : x 7 = _ := hp 7 (by decide)
        obtain ⟨g, hg, tg, ho⟩ := hp 6 (by decide)
        obtain ⟨va2, vc2, e6, k1, k2, _⟩ := owns_shape ho
        rw [e6] at ho
        simp only [putL, upd, Nat.reduceBEq, Nat.reduceAdd, cond_true, cond_false, Act.put, List.setIfInBounds_toArray, List.set_cons_zero, List.set_cons_succ] at hK ⊢
        generalize x 7 = y7 at e7 ⊢
        subst e7
        generalize x 6 = y6 at e6 ⊢
        subst e6
        have hmW : W.heap[w1.heap.size]? = _ := (hi.1.block _ HML.out HM0.out).trans HMO.out
        have c5 := rowC hmW 5 _
        have g5 := frozen_of_row W w1.heap.size 5 _ _ hmW
        have HMW := Lib.hid hmW
        have HHO := Lib.hid ho
        have HTG := Lib.hid tg
        have HFR := Lib.hid hi.1
        clear hmW ho tg hi hp
        refine wpOp_step (o := ?_) ?_ (fun K' hK' => ?_)
        rotate_left
        focus (simp only [List.getElem?_toArray, List.getElem?_cons_succ, List.getElem?_cons_zero] <;> rfl)
        go_simp
        refine hK' _ _ (hK _ _ ?_)
        clear hK hK' c5 g5
        go_wp2_with fail
        go_roundw
        case rel =>
          have hbW : Below w.heap.size w W := (HB.out.drew).trans (HFR.out.below (B := w.heap.size) (by show w.heap.size ≤ wo.heap.size; have := HS1.out; omega) (fun r hr h => by have := (HFT.out r h).1; omega))
          have hsW : w1.heap.size + 1 ≤ W.heap.size := Nat.le_trans HS1.out HFR.out.size
          have hto : ∀ g, TyG W g → TyG (W.setCell ⟨w1.heap.size, 5, none⟩ (.slice va2 (i + 1) vc2)) g := fun g hg => blk_set_other hg _ _ (tyG_ne hg HMW.out (by decide))
          refine ⟨i + 1, va2, vc2, xs ++ varL 1023 g, by go_num, by omega, Eq.trans (heap_setCell_same _ w1.heap.size 5 _ _ _ HMW.out) rfl, owns_set_other HHO.out _ _ (fun e => by have := (owns_ty HHO.out _ e).1; simp at this; omega), ⟨xs, g, by rw [show nsW q i = 1023 from if_pos hlt]; rfl, hto _ HTG.out, VRow.keep (fun g hg => hto _ (tyG_frame HFT.out HFR.out hg)) i xs HVR.out⟩, hbW.setCell (by show w.heap.size ≤ w1.heap.size; omega) _, by simp [World.setCell]; omega⟩
        case measure => simp [intOf]; omega
    · go_upto_region 29 with fail
      obtain ⟨wd, hwd⟩ : ∃ wd : World, wd = wo.drew := ⟨_, rfl⟩
      have hdh : wd.heap = wo.heap := by rw [hwd]; rfl
      have hIV0 : IV (.slice va i vc) 8 wo.drew (Array.replicate (10 + 1) false) wo.drew := ⟨Fr.refl _ _, fun _ => Below.refl _ _⟩
      have hbd : Below wo.heap.size wo wo.drew := (Below.refl _ _).drew
      clear hwd hdh wd
      refine drawn_slots (N := 10) (I := IV (.slice va i vc) 8 wo.drew) (R := fun j => RV (.slice va i vc) (pm29 j)) [107, 108, 109, 110, 111, 112, 113, 114, 115, 116] (iV_step pm29 (pm29_six) (by decide)) hIV0 rfl (fun k => PsiV w1.heap.size wo.heap.size (w1.heap.size + 1) i (.slice va i vc) (16 + ((q : Int) - 2)) ((q : Int) - 2) xs (pm29 k)) rfl (by kernel_rfl) (by kernel_rfl) (fun a b v W W' hab hps hr => psiV_keep _ _ _ _ _ _ _ _ HFL.out (pm29 a) (pm29 b) v W W' (fun h1 h2 => hab (((pm29_six a).1 h1).trans ((pm29_six b).1 h2).symm)) hps hr) ?_ ?_
      · intro j hj L x W K hL hi hp hK
        match j, hj with
        | 0, _ =>
          simp only [putL, upd, Nat.reduceBEq, Nat.reduceAdd, cond_true, cond_false, Act.put, List.setIfInBounds_toArray, List.set_cons_zero, List.set_cons_succ] at hK ⊢
          refine wpOp_step (o := ?_) ?_ (fun K' hK' => ?_)
          rotate_left
          focus (simp only [List.getElem?_toArray, List.getElem?_cons_succ, List.getElem?_cons_zero] <;> rfl)
          go_simp
          exact hK' _ _ (hK _ _ rfl (RV.mk (by decide) (Below.refl _ _)))
        | 1, _ =>
          have e0 : x 0 = _ := hp 0 (by kernel_rfl)
          have cW : W.cell? ⟨w1.heap.size, 5, none⟩ = some (.slice va i vc) := (hi.1.cell (p := ⟨w1.heap.size, 5, none⟩) (by exact HML.out) (by exact HM0.out)).trans HC5.out
          simp only [putL, upd, Nat.reduceBEq, Nat.reduceAdd, cond_true, cond_false, Act.put, List.setIfInBounds_toArray, List.set_cons_zero, List.set_cons_succ] at hK ⊢
          generalize x 0 = y0 at hK e0 ⊢
          subst e0
          refine wpOp_step (o := ?_) ?_ (fun K' hK' => ?_)
          rotate_left
          focus (simp only [List.getElem?_toArray, List.getElem?_cons_succ, List.getElem?_cons_zero] <;> rfl)
          go_simp
          exact hK' _ _ (hK _ _ rfl (RV.mk (by decide) (Below.refl _ _)))
        | 2, _ =>
          simp only [putL, upd, Nat.reduceBEq, Nat.reduceAdd, cond_true, cond_false, Act.put, List.setIfInBounds_toArray, List.set_cons_zero, List.set_cons_succ] at hK ⊢
          refine wpOp_step (o := ?_) ?_ (fun K' hK' => ?_)
          rotate_left
          focus (simp only [List.getElem?_toArray, List.getElem?_cons_succ, List.getElem?_cons_zero] <;> rfl)
          go_simp
          exact hK' _ _ (hK _ _ rfl (RV.mk (by decide) (Below.refl _ _)))
        | 3, _ =>
          have e2 : x 2 = _ := hp 2 (by kernel_rfl)
          simp only [putL, upd, Nat.reduceBEq, Nat.reduceAdd, cond_true, cond_false, Act.put, List.setIfInBounds_toArray, List.set_cons_zero, List.set_cons_succ] at hK ⊢
          generalize x 2 = y2 at hK e2 ⊢
          subst e2
          refine wpOp_step (o := ?_) ?_ (fun K' hK' => ?_)
          rotate_left
          focus (simp only [List.getElem?_toArray, List.getElem?_cons_succ, List.getElem?_cons_zero] <;> rfl)
          go_simp
          exact hK' _ _ (hK _ _ (congrArg (Value.int .i64) (IntWalk.i64_in _ (by omega))) (RV.mk (by decide) (Below.refl _ _)))
        | 4, _ =>
          simp only [putL, upd, Nat.reduceBEq, Nat.reduceAdd, cond_true, cond_false, Act.put, List.setIfInBounds_toArray, List.set_cons_zero, List.set_cons_succ] at hK ⊢
          refine wpOp_step (o := ?_) ?_ (fun K' hK' => ?_)
          rotate_left
          focus (simp only [List.getElem?_toArray, List.getElem?_cons_succ, List.getElem?_cons_zero] <;> rfl)
          go_simp
          go_at_call 8
          refine (basic_prog _ _).mono ?_
          rintro e W' ⟨rfl, hbw⟩
          exact hK' _ _ (hK _ _ rfl (RV.mk (by decide) hbw))
        | 5, _ =>
          have e4 : x 4 = _ := hp 4 (by kernel_rfl)
          have e3 : x 3 = _ := hp 3 (by kernel_rfl)
          have hsw : wo.heap.size ≤ W.heap.size := hi.1.size
          simp only [putL, upd, Nat.reduceBEq, Nat.reduceAdd, cond_true, cond_false, Act.put, List.setIfInBounds_toArray, List.set_cons_zero, List.set_cons_succ] at hK ⊢
          generalize x 4 = y4 at hK e4 ⊢
          subst e4
          generalize x 3 = y3 at hK e3 ⊢
          subst e3
          refine wpOp_step (o := ?_) ?_ (fun K' hK' => ?_)
          rotate_left
          focus (simp only [List.getElem?_toArray, List.getElem?_cons_succ, List.getElem?_cons_zero] <;> rfl)
          go_simp
          go_at_call 7
          refine (arr_prog _ _).mono ?_
          rintro e W' ⟨⟨g, rfl, hgs, tg⟩, hbw⟩
          exact hK' _ _ (hK _ _ ⟨g, rfl, Nat.le_trans hsw hgs, tg⟩ (RV.mk (by decide) hbw))
        | 6, _ =>
          obtain ⟨g, e5, hg, tg⟩ := hp 5 (by kernel_rfl)
          simp only [putL, upd, Nat.reduceBEq, Nat.reduceAdd, cond_true, cond_false, Act.put, List.setIfInBounds_toArray, List.set_cons_zero, List.set_cons_succ] at hK ⊢
          generalize x 5 = y5 at hK e5 ⊢
          subst e5
          refine wpOp_step (o := ?_) ?_ (fun K' hK' => ?_)
          rotate_left
          focus (simp only [List.getElem?_toArray, List.getElem?_cons_succ, List.getElem?_cons_zero] <;> rfl)
          go_simp
          exact hK' _ _ (hK _ _ ⟨g, rfl, hg, tg⟩ (RV.mk (by decide) (Below.refl _ _)))
        | 7, _ =>
          obtain ⟨g, e6, hg, tg⟩ := hp 6 (by kernel_rfl)
          have hsw : wo.heap.size ≤ W.heap.size := hi.1.size
          simp only [putL, upd, Nat.reduceBEq, Nat.reduceAdd, cond_true, cond_false, Act.put, List.setIfInBounds_toArray, List.set_cons_zero, List.set_cons_succ] at hK ⊢
          generalize x 6 = y6 at hK e6 ⊢
          subst e6
          refine wpOp_step (o := ?_) ?_ (fun K' hK' => ?_)
          rotate_left
          focus (simp only [List.getElem?_toArray, List.getElem?_cons_succ, List.getElem?_cons_zero] <;> rfl)
          go_simp
          exact hK' _ _ (hK _ _ ⟨g, _, rfl, hg, hsw, heap_keep tg ((Below.refl _ _).alloc (Nat.le_refl _) _), heap_alloc_new W _⟩ (RV.mk (by decide) ((Below.refl _ _).alloc (Nat.le_refl _) _)))
        | 8, _ =>
          have e1 : x 1 = _ := hp 1 (by kernel_rfl)
          obtain ⟨g, g2, e7, hg, hg2, tg, tv⟩ := hp 7 (by kernel_rfl)
          have hoW := HOW.out.kept (grown_of_below (hbd.trans ((hi.2 hL).mono (Nat.le_refl _)))) (by cases h : Value.ownBlock (.slice va i vc) <;> simp)
          have hrd : Rd W 6 (.slice (some ⟨g2, 0, none⟩) 1 1) 1 (varL (16 + ((q : Int) - 2)) g) := Rd.of_cells rfl (Nat.le_refl _) (by simp [maxLen]) fun j u hu => by rw [Nat.zero_add]; exact rowC tv j u (by simpa [varL] using hu)
          have hsz2 : w1.heap.size + 1 ≤ W.heap.size := Nat.le_trans HS1.out hi.1.size
          simp only [putL, upd, Nat.reduceBEq, Nat.reduceAdd, cond_true, cond_false, Act.put, List.setIfInBounds_toArray, List.set_cons_zero, List.set_cons_succ] at hK ⊢
          generalize x 1 = y1 at hK e1 ⊢
          subst e1
          generalize x 7 = y7 at hK e7 ⊢
          subst e7
          refine wpOp_step (o := ?_) ?_ (fun K' hK' => ?_)
          rotate_left
          focus (simp only [List.getElem?_toArray, List.getElem?_cons_succ, List.getElem?_cons_zero] <;> rfl)
          refine step_app_own elemVar rfl _ _ rfl (w1.heap.size + 1) (.slice va i vc) i xs rfl hoW ⟨g2, 0, none⟩ 1 1 (varL (16 + ((q : Int) - 2)) g) rfl hrd (by decide) (varL_one _ _) (by simp only [maxLen]; omega) (by omega) hsz2 (fun v' W' ho' hg' => ?_)
          exact hK' _ _ (hK _ _ ⟨g, hg, blk_grown tg hg' (fun e => by have := HFL.out _ e; omega), ho'⟩ (RV.mk6 hg'))
        | 9, _ =>
          simp only [putL, upd, Nat.reduceBEq, Nat.reduceAdd, cond_true, cond_false, Act.put, List.setIfInBounds_toArray, List.set_cons_zero, List.set_cons_succ] at hK ⊢
          refine wpOp_step (o := ?_) ?_ (fun K' hK' => ?_)
          rotate_left
          focus (simp only [List.getElem?_toArray, List.getElem?_cons_succ, List.getElem?_cons_zero] <;> rfl)
          go_simp
          exact hK' _ _ (hK _ _ rfl (RV.mk (by decide) (Below.refl _ _)))
      · intro L x W K hi hp hK
        have e9 : x 9 = _ := hp 9 (by decide)
        obtain ⟨g, hg, tg, ho⟩ := hp 8 (by decide)
        obtain ⟨va2, vc2, e8, k1, k2, _⟩ := owns_shape ho
        rw [e8] at ho
        simp only [putL, upd, Nat.reduceBEq, Nat.reduceAdd, cond_true, cond_false, Act.put, List.setIfInBounds_toArray, List.set_cons_zero, List.set_cons_succ] at hK ⊢
        generalize x 9 = y9 at e9 ⊢
        subst e9
        generalize x 8 = y8 at e8 ⊢
        subst e8
        have hmW : W.heap[w1.heap.size]? = _ := (hi.1.block _ HML.out HM0.out).trans HMO.out
        have c5 := rowC hmW 5 _
        have g5 := frozen_of_row W w1.heap.size 5 _ _ hmW
        have HMW := Lib.hid hmW
        have HHO := Lib.hid ho
        have HTG := Lib.hid tg
        have HFR := Lib.hid hi.1
        clear hmW ho tg hi hp
        refine wpOp_step (o := ?_) ?_ (fun K' hK' => ?_)
        rotate_left
        focus (simp only [List.getElem?_toArray, List.getElem?_cons_succ, List.getElem?_cons_zero] <;> rfl)
        go_simp
        refine hK' _ _ (hK _ _ ?_)
        clear hK hK' c5 g5
        obtain ⟨wz, hwz⟩ : ∃ wz : World, wz = W.setCell ⟨w1.heap.size, 5, none⟩ (.slice va2 (i + 1) vc2) := ⟨_, rfl⟩
        have hbW : Below w.heap.size w W := (HB.out.drew).trans (HFR.out.below (B := w.heap.size) (by show w.heap.size ≤ wo.heap.size; have := HS1.out; omega) (fun r hr h => by have := (HFT.out r h).1; omega))
        have hsW : w1.heap.size + 1 ≤ W.heap.size := Nat.le_trans HS1.out HFR.out.size
        have hto : ∀ g, TyG W g → TyG wz g := fun g hg => by rw [hwz]; exact blk_set_other hg _ _ (tyG_ne hg HMW.out (by decide))
        have hmz : wz.heap[w1.heap.size]? = some (.cells (mdC (.slice va2 (i + 1) vc2) (.slice none 0 0) (.slice none 0 0)) 30 (0, 0)) := by rw [hwz]; exact Eq.trans (heap_setCell_same _ w1.heap.size 5 _ _ _ HMW.out) rfl
        have how2 := owns_set_other HHO.out ⟨w1.heap.size, 5, none⟩ (.slice va2 (i + 1) vc2) (fun e => by have := (owns_ty HHO.out _ e).1; simp at this; omega)
        rw [← hwz] at how2 ⊢
        have hvr2 : VRow (nsW q) wz (i + 1) (xs ++ varL (16 + ((q : Int) - 2)) g) := ⟨xs, g, by rw [show nsW q i = 14 + q from if_neg (by omega), show ((14 + q : Nat) : Int) = 16 + ((q : Int) - 2) from by omega], hto _ HTG.out, VRow.keep (fun g hg => hto _ (tyG_frame HFT.out HFR.out hg)) i xs HVR.out⟩
        have hgood : Good wz (moV va2 (i + 1) vc2) (fun j => (nsW q j : Int)) none 0 0 (fun _ => .none) (fun _ => .none) := good_V (vsAt_row (rd_of_owns how2) hvr2 (fun j => by unfold nsW; split <;> omega)) (fun j => by unfold nsW; split <;> omega) k1 (by simp only [maxLen] at k2; omega) (by omega)
        have hsum : ((16382 + q : Nat) : Int) = sumK (fun j => (nsW q j : Int)) (i + 1) := by rw [show i + 1 = 17 from by omega, nsW_sum]
        have HCK1 := Lib.hid (fun V (b : Nat) (E : Int) (hv : Below wz.heap.size wz V) (hb : V.heap[b]? = some (.cells (mdC (.slice va2 (i + 1) vc2) (.slice none 0 0) (.slice none 0 0)) 30 (0, 0))) (hE : (16382 + q ≤ 16384 ∧ E = 0) ∨ (¬ 16382 + q ≤ 16384 ∧ E = 45)) => checkE1 (c := 1) (hgood.below hv) (by obtain ⟨n0, n1, n2, n3, n4, n5, n6, n7⟩ := mdC_cells hb; exact ⟨n0, n1, n2, n3, n4, n5, n6, n7⟩) rfl (by decide) (by decide) (Nat.zero_le _) hsum E (by rcases hE with ⟨h, rfl⟩ | ⟨h, rfl⟩; exact (if_pos ⟨h, Nat.zero_le 8000⟩).symm; exact (if_neg (fun k => h k.1)).symm))
        have HCK2 := Lib.hid (fun V (b c : Nat) (E : Int) (hv : Below wz.heap.size wz V) (hc : ∀ j u, ((moV va2 (i + 1) vc2).arr.toList ++ moN.arr.toList)[j]? = some u → V.cell? ⟨b, 0 + j, none⟩ = some u) (h1 : 1 + 1 ≤ c) (h2 : c ≤ 9223372036854775807) (hE : (16382 + q ≤ 16384 ∧ E = 0) ∨ (¬ 16382 + q ≤ 16384 ∧ E = 45)) => checkE2 (hgood.below hv) (moAt_of hc 0 (moV va2 (i + 1) vc2) (fun i hi => by rw [List.getElem?_append_left (by rw [arr_len]; omega), Nat.zero_add])) (moAt_of hc 8 moN (fun i hi => by rw [List.getElem?_append_right (by rw [arr_len]; omega), arr_len, Nat.add_sub_cancel_left])) rfl h1 h2 (Nat.zero_le _) hsum E (by rcases hE with ⟨h, rfl⟩ | ⟨h, rfl⟩; exact (if_pos ⟨h, Nat.zero_le 8000⟩).symm; exact (if_neg (fun k => h k.1)).symm))
        have HBW := Lib.hid (show Below w.heap.size w wz from by rw [hwz]; exact hbW.setCell (by show w.heap.size ≤ w1.heap.size; omega) _)
        have HMZ := Lib.hid hmz
        have hlz := (Array.getElem?_eq_some_iff.1 hmz).1
        clear hwz hbW hsW hto hmz how2 hvr2 hgood hsum HMW HHO HTG HFR
        cases a2 <;> by_cases hR : (q : Int) - 2 ≤ 0
        · obtain ⟨m0, m1, m2, m3, m4, m5, m6, m7⟩ := mdC_cells HMZ.out
          go_wp2_with fail
          have hba : Below wz.heap.size wz (wz.alloc (.cells #[.string { data := #[77] }, .slice none 0 0, .slice none 0 0, .slice none 0 0, .slice none 0 0, .slice va2 (i + 1) vc2, .slice none 0 0, .slice none 0 0] 30)) := (Below.refl _ _).alloc (Nat.le_refl _) _
          refine (HCK1.out _ wz.heap.size 0 hba (heap_alloc_new wz _) (.inl ⟨by omega, rfl⟩)).mono ?_
          rintro en x1 ⟨rfl, hb⟩
          have BX := Lib.hid (HBW.out.trans ((hba.trans (hb.mono hba.size)).mono HBW.out.size))
          clear hb hba
          clear m0 m1 m2 m3 m4 m5 m6 m7
          go_wp2_with fail
          go_ret
          exact ⟨rfl, BX.out⟩
        · obtain ⟨m0, m1, m2, m3, m4, m5, m6, m7⟩ := mdC_cells HMZ.out
          go_wp2_with fail
          have hba : Below wz.heap.size wz (wz.alloc (.cells #[.string { data := #[77] }, .slice none 0 0, .slice none 0 0, .slice none 0 0, .slice none 0 0, .slice va2 (i + 1) vc2, .slice none 0 0, .slice none 0 0] 30)) := (Below.refl _ _).alloc (Nat.le_refl _) _
          refine (HCK1.out _ wz.heap.size 45 hba (heap_alloc_new wz _) (.inr ⟨by omega, rfl⟩)).mono ?_
          rintro en x1 ⟨rfl, hb⟩
          have BX := Lib.hid (HBW.out.trans ((hba.trans (hb.mono hba.size)).mono HBW.out.size))
          clear hb hba
          clear m0 m1 m2 m3 m4 m5 m6 m7
          go_wp2_with fail
          go_ret
          first
          | exact ⟨rfl, BX.out⟩
          | exact ⟨by simp [hR]; omega, BX.out⟩
        · obtain ⟨m0, m1, m2, m3, m4, m5, m6, m7⟩ := mdC_cells HMZ.out
          have hba : Below wz.heap.size wz ((wz.alloc (.cells #[.string { data := #[77] }, .slice none 0 0, .slice none 0 0, .slice none 0 0, .slice none 0 0, .slice va2 (i + 1) vc2, .slice none 0 0, .slice none 0 0] 30)).alloc (.cells #[.string { data := #[78] }, .slice none 0 0, .slice none 0 0, .slice none 0 0, .slice none 0 0, .slice none 0 0, .slice none 0 0, .slice none 0 0] 30)) := ((Below.refl _ _).alloc (Nat.le_refl _) _).alloc (by simp) _
          have hr1 : Rd ((wz.alloc (.cells #[.string { data := #[77] }, .slice none 0 0, .slice none 0 0, .slice none 0 0, .slice none 0 0, .slice va2 (i + 1) vc2, .slice none 0 0, .slice none 0 0] 30)).alloc (.cells #[.string { data := #[78] }, .slice none 0 0, .slice none 0 0, .slice none 0 0, .slice none 0 0, .slice none 0 0, .slice none 0 0, .slice none 0 0] 30)) 8 (.slice (some ⟨wz.heap.size, 0, none⟩) 1 1) 1 (moV va2 (i + 1) vc2).arr.toList := rd_mo1 (by obtain ⟨n0, n1, n2, n3, n4, n5, n6, n7⟩ := mdC_cells (w := ((wz.alloc (.cells #[.string { data := #[77] }, .slice none 0 0, .slice none 0 0, .slice none 0 0, .slice none 0 0, .slice va2 (i + 1) vc2, .slice none 0 0, .slice none 0 0] 30)).alloc (.cells #[.string { data := #[78] }, .slice none 0 0, .slice none 0 0, .slice none 0 0, .slice none 0 0, .slice none 0 0, .slice none 0 0, .slice none 0 0] 30))) (blk_alloc (heap_alloc_new wz _) _); exact ⟨n0, n1, n2, n3, n4, n5, n6, n7⟩) (by omega) (by omega)
          have hr2 : Rd ((wz.alloc (.cells #[.string { data := #[77] }, .slice none 0 0, .slice none 0 0, .slice none 0 0, .slice none 0 0, .slice va2 (i + 1) vc2, .slice none 0 0, .slice none 0 0] 30)).alloc (.cells #[.string { data := #[78] }, .slice none 0 0, .slice none 0 0, .slice none 0 0, .slice none 0 0, .slice none 0 0, .slice none 0 0, .slice none 0 0] 30)) 8 (.slice (some ⟨wz.heap.size + 1, 0, none⟩) 1 1) 1 moN.arr.toList := by
            have := rd_new (wz.alloc (.cells #[.string { data := #[77] }, .slice none 0 0, .slice none 0 0, .slice none 0 0, .slice none 0 0, .slice va2 (i + 1) vc2, .slice none 0 0, .slice none 0 0] 30)) moN.arr.toList 30 1 8 rfl (by simp [maxLen])
            rw [show (wz.alloc (.cells #[.string { data := #[77] }, .slice none 0 0, .slice none 0 0, .slice none 0 0, .slice none 0 0, .slice va2 (i + 1) vc2, .slice none 0 0, .slice none 0 0] 30)).heap.size = wz.heap.size + 1 from by simp] at this
            exact this
          have HR1 := Lib.hid hr1
          have HR2 := Lib.hid hr2
          have HBA := Lib.hid hba
          clear hr1 hr2 hba
          go_wp2_with (at_builtin; refine app_full _ elemMod rfl _ _ rfl (some ⟨wz.heap.size, 0, none⟩) 1 (moV va2 (i + 1) vc2).arr.toList rfl HR1.out _ 1 moN.arr.toList rfl HR2.out (arr_one _) (by decide) (by decide) (by decide) ?_; intro v3 w3 ho3 hg3)
          obtain ⟨gg, cc, rfl, _, _, j3, j4⟩ := owns_some ho3 (by omega)
          obtain ⟨_, _, _, hsl, _, _, _, hcells⟩ := rd_of_owns ho3
          obtain ⟨bq, oq, hbo, hcells⟩ := hcells (by omega)
          obtain ⟨rfl, rfl⟩ : _ ∧ _ := by simpa using (by injection hsl with e1 e2 e3; exact e1.trans hbo : (some ⟨gg, 0, none⟩ : Option Addr) = some ⟨bq, oq, none⟩)
          have hb3 := HBA.out.trans ((below_of_grown_none (Below.refl _ _) (Nat.le_refl _) hg3).mono HBA.out.size)
          have HB3 := Lib.hid hb3
          have HC3 := Lib.hid hcells
          clear ho3 hg3 hsl hbo hcells hb3
          go_wp2_with fail
          refine (HCK2.out _ gg cc 0 HB3.out HC3.out j3 j4 (.inl ⟨by omega, rfl⟩)).mono ?_
          rintro en x1 ⟨rfl, hb⟩
          have BX := Lib.hid (HBW.out.trans ((HB3.out.trans (hb.mono HB3.out.size)).mono HBW.out.size))
          clear hb
          clear m0 m1 m2 m3 m4 m5 m6 m7
          go_wp2_with fail
          go_ret
          exact ⟨rfl, BX.out⟩
        · obtain ⟨m0, m1, m2, m3, m4, m5, m6, m7⟩ := mdC_cells HMZ.out
          have hba : Below wz.heap.size wz ((wz.alloc (.cells #[.string { data := #[77] }, .slice none 0 0, .slice none 0 0, .slice none 0 0, .slice none 0 0, .slice va2 (i + 1) vc2, .slice none 0 0, .slice none 0 0] 30)).alloc (.cells #[.string { data := #[78] }, .slice none 0 0, .slice none 0 0, .slice none 0 0, .slice none 0 0, .slice none 0 0, .slice none 0 0, .slice none 0 0] 30)) := ((Below.refl _ _).alloc (Nat.le_refl _) _).alloc (by simp) _
          have hr1 : Rd ((wz.alloc (.cells #[.string { data := #[77] }, .slice none 0 0, .slice none 0 0, .slice none 0 0, .slice none 0 0, .slice va2 (i + 1) vc2, .slice none 0 0, .slice none 0 0] 30)).alloc (.cells #[.string { data := #[78] }, .slice none 0 0, .slice none 0 0, .slice none 0 0, .slice none 0 0, .slice none 0 0, .slice none 0 0, .slice none 0 0] 30)) 8 (.slice (some ⟨wz.heap.size, 0, none⟩) 1 1) 1 (moV va2 (i + 1) vc2).arr.toList := rd_mo1 (by obtain ⟨n0, n1, n2, n3, n4, n5, n6, n7⟩ := mdC_cells (w := ((wz.alloc (.cells #[.string { data := #[77] }, .slice none 0 0, .slice none 0 0, .slice none 0 0, .slice none 0 0, .slice va2 (i + 1) vc2, .slice none 0 0, .slice none 0 0] 30)).alloc (.cells #[.string { data := #[78] }, .slice none 0 0, .slice none 0 0, .slice none 0 0, .slice none 0 0, .slice none 0 0, .slice none 0 0, .slice none 0 0] 30))) (blk_alloc (heap_alloc_new wz _) _); exact ⟨n0, n1, n2, n3, n4, n5, n6, n7⟩) (by omega) (by omega)
          have hr2 : Rd ((wz.alloc (.cells #[.string { data := #[77] }, .slice none 0 0, .slice none 0 0, .slice none 0 0, .slice none 0 0, .slice va2 (i + 1) vc2, .slice none 0 0, .slice none 0 0] 30)).alloc (.cells #[.string { data := #[78] }, .slice none 0 0, .slice none 0 0, .slice none 0 0, .slice none 0 0, .slice none 0 0, .slice none 0 0, .slice none 0 0] 30)) 8 (.slice (some ⟨wz.heap.size + 1, 0, none⟩) 1 1) 1 moN.arr.toList := by
            have := rd_new (wz.alloc (.cells #[.string { data := #[77] }, .slice none 0 0, .slice none 0 0, .slice none 0 0, .slice none 0 0, .slice va2 (i + 1) vc2, .slice none 0 0, .slice none 0 0] 30)) moN.arr.toList 30 1 8 rfl (by simp [maxLen])
            rw [show (wz.alloc (.cells #[.string { data := #[77] }, .slice none 0 0, .slice none 0 0, .slice none 0 0, .slice none 0 0, .slice va2 (i + 1) vc2, .slice none 0 0, .slice none 0 0] 30)).heap.size = wz.heap.size + 1 from by simp] at this
            exact this
          have HR1 := Lib.hid hr1
          have HR2 := Lib.hid hr2
          have HBA := Lib.hid hba
          clear hr1 hr2 hba
          go_wp2_with (at_builtin; refine app_full _ elemMod rfl _ _ rfl (some ⟨wz.heap.size, 0, none⟩) 1 (moV va2 (i + 1) vc2).arr.toList rfl HR1.out _ 1 moN.arr.toList rfl HR2.out (arr_one _) (by decide) (by decide) (by decide) ?_; intro v3 w3 ho3 hg3)
          obtain ⟨gg, cc, rfl, _, _, j3, j4⟩ := owns_some ho3 (by omega)
          obtain ⟨_, _, _, hsl, _, _, _, hcells⟩ := rd_of_owns ho3
          obtain ⟨bq, oq, hbo, hcells⟩ := hcells (by omega)
          obtain ⟨rfl, rfl⟩ : _ ∧ _ := by simpa using (by injection hsl with e1 e2 e3; exact e1.trans hbo : (some ⟨gg, 0, none⟩ : Option Addr) = some ⟨bq, oq, none⟩)
          have hb3 := HBA.out.trans ((below_of_grown_none (Below.refl _ _) (Nat.le_refl _) hg3).mono HBA.out.size)
          have HB3 := Lib.hid hb3
          have HC3 := Lib.hid hcells
          clear ho3 hg3 hsl hbo hcells hb3
          go_wp2_with fail
          refine (HCK2.out _ gg cc 45 HB3.out HC3.out j3 j4 (.inr ⟨by omega, rfl⟩)).mono ?_
          rintro en x1 ⟨rfl, hb⟩
          have BX := Lib.hid (HBW.out.trans ((HB3.out.trans (hb.mono HB3.out.size)).mono HBW.out.size))
          clear hb
          clear m0 m1 m2 m3 m4 m5 m6 m7
          go_wp2_with fail
          go_ret
          first
          | exact ⟨rfl, BX.out⟩
          | exact ⟨by simp [hR]; omega, BX.out⟩
end Go.Proofs.Ytmidkomdmnncoaa
