/- Need: what the law knows. -/
import Derived.Test.YtmidkomdmnncoaaNd21
import Derived.Test.YtmidkomdmnncoaaNd18
namespace Go.Proofs.Ytmidkomdmnncoaa
open Go.RowKit Go.Waf
set_option maxRecDepth 100000
set_option linter.unusedVariables false
set_option linter.unusedSimpArgs false

def VrG (W : World) (n : Int) (nm : ByteArray) (g g2 : Nat) : Prop := TyG W g ∧ W.heap[g2]? = some (.cells #[.string nm, .bool false, .int .i64 7, .int .i64 n, .string { data := #[] }, .slice (some ⟨g, 0, none⟩) 1 1] 47 (0, 0))
def exK (u : Nat) : Array Value := #[.int .i64 9, .int .i64 0, .int .i64 0, .string { data := #[] }, .slice none 0 0, .int .i32 0, .string { data := #[] }, .slice (some ⟨u, 0, none⟩) 2 2]
def ExG (W : World) (u h : Nat) : Prop := W.heap[h]? = some (.cells #[.int .i64 9, .int .i64 0, .int .i64 0, .string { data := #[] }, .slice none 0 0, .int .i32 0, .string { data := #[] }, .slice (some ⟨u, 0, none⟩) 2 2] 36 (0, 0))
def StG (W : World) (u h k : Nat) : Prop := ExG W u h ∧ W.heap[k]? = some (.cells #[.int .i64 14, .slice (some ⟨h, 0, none⟩) 1 1, .slice none 0 0, .slice none 0 0] 40 (0, 0))
def MoZ (W : World) (p : Nat) : Prop := W.heap[p]? = some (.cells #[.string { data := #[] }, .slice none 0 0, .slice none 0 0, .slice none 0 0, .slice none 0 0, .slice none 0 0, .slice none 0 0, .slice none 0 0] 30 (0, 0))
theorem VrG.keep {W W' : World} {n : Int} {nm : ByteArray} {g g2 : Nat} (h : VrG W n nm g g2) (hb : Below W.heap.size W W') : VrG W' n nm g g2 := ⟨heap_keep h.1 hb, heap_keep h.2 hb⟩
theorem StG.keep {W W' : World} {u h k : Nat} (hh : StG W u h k) (hb : Below W.heap.size W W') : StG W' u h k := ⟨heap_keep hh.1 hb, heap_keep hh.2 hb⟩
/-- What each operation of known's module leaves. -/
def PsiK (u : Nat) : Nat → Value → World → Prop
  | 0, v, _ => v = .agg #[.int .i64 1, .int .i64 0, .string { data := #[] }, .slice none 0 0]
  | 1, v, W => ∃ g, v = .agg #[.int .i64 7, .int .i64 3, .string { data := #[] }, .slice (some ⟨g, 0, none⟩) 1 1] ∧ TyG W g
  | 2, v, W => ∃ g, v = .agg #[.string { data := #[97] }, .bool false, .int .i64 7, .int .i64 3, .string { data := #[] }, .slice (some ⟨g, 0, none⟩) 1 1] ∧ TyG W g
  | 3, v, W => ∃ g g2, v = .slice (some ⟨g2, 0, none⟩) 1 1 ∧ VrG W 3 { data := #[97] } g g2
  | 4, v, _ => v = .agg #[.int .i64 9, .int .i64 0, .int .i64 0, .string { data := #[] }, .slice none 0 0, .int .i32 0, .string { data := #[] }, .slice (some ⟨u, 0, none⟩) 2 2]
  | 5, v, W => ∃ h, v = .slice (some ⟨h, 0, none⟩) 1 1 ∧ ExG W u h
  | 6, v, W => ∃ h, v = .agg #[.int .i64 14, .slice (some ⟨h, 0, none⟩) 1 1, .slice none 0 0, .slice none 0 0] ∧ ExG W u h
  | 7, v, W => ∃ h k, v = .slice (some ⟨k, 0, none⟩) 1 1 ∧ StG W u h k
  | 8, v, W => ∃ g g2 h k, v = .agg #[.string { data := #[77] }, .slice none 0 0, .slice none 0 0, .slice none 0 0, .slice none 0 0, .slice (some ⟨g2, 0, none⟩) 1 1, .slice none 0 0, .slice (some ⟨k, 0, none⟩) 1 1] ∧ VrG W 3 { data := #[97] } g g2 ∧ StG W u h k
  | 9, v, W => ∃ p, v = .pointer (some ⟨p, 0, none⟩) ∧ u + 2 ≤ p ∧ MoZ W p
  | _, _, _ => True
theorem psiK_keep (u : Nat) : ∀ i v W W', PsiK u i v W → Below W.heap.size W W' → PsiK u i v W'
  | 0, v, W, W', h, hb => h
  | 1, v, W, W', ⟨g, h1, h2⟩, hb => ⟨g, h1, heap_keep h2 hb⟩
  | 2, v, W, W', ⟨g, h1, h2⟩, hb => ⟨g, h1, heap_keep h2 hb⟩
  | 3, v, W, W', ⟨g, g2, h1, h2⟩, hb => ⟨g, g2, h1, h2.keep hb⟩
  | 4, v, W, W', h, hb => h
  | 5, v, W, W', ⟨g, h1, h2⟩, hb => ⟨g, h1, heap_keep h2 hb⟩
  | 6, v, W, W', ⟨g, h1, h2⟩, hb => ⟨g, h1, heap_keep h2 hb⟩
  | 7, v, W, W', ⟨g, g2, h1, h2⟩, hb => ⟨g, g2, h1, h2.keep hb⟩
  | 8, v, W, W', ⟨g, g2, h, k, h1, h2, h3⟩, hb => ⟨g, g2, h, k, h1, h2.keep hb, h3.keep hb⟩
  | 9, v, W, W', ⟨g, h1, h2, h3⟩, hb => ⟨g, h1, h2, heap_keep h3 hb⟩
  | _ + 10, _, _, _, _, _ => trivial
/-- What known has made. -/
def KN (W : World) (u g g2 h k p : Nat) : Prop := W.heap[p]? = some (.cells #[.string { data := #[77] }, .slice none 0 0, .slice none 0 0, .slice none 0 0, .slice none 0 0, .slice (some ⟨g2, 0, none⟩) 1 1, .slice none 0 0, .slice (some ⟨k, 0, none⟩) 1 1] 30 (0, 0)) ∧ TwoG W u zE (.slice none 0 0) (.slice none 0 0) ∧ ExG W u (u + 1) ∧ VrG W 3 { data := #[97] } g g2 ∧ StG W u h k
theorem KN.keep {W W' : World} {u g g2 h k p : Nat} (hh : KN W u g g2 h k p) (hb : Below W.heap.size W W') : KN W' u g g2 h k p :=
  ⟨heap_keep hh.1 hb, heap_keep hh.2.1 hb, heap_keep hh.2.2.1 hb, hh.2.2.2.1.keep hb, hh.2.2.2.2.keep hb⟩
def moK (g2 k : Nat) : Mo := Mo.mk { data := #[77] } (some ⟨g2, 0, none⟩) 1 1 none 0 0 (some ⟨k, 0, none⟩) 1 1
theorem KN.ex {W : World} {u g g2 h k p : Nat} (hh : KN W u g g2 h k p) : ExOk W (nestE 1) (.slice none 0 0) (.slice (some ⟨u, 0, none⟩) 2 2) := ex_add hh.2.1 (zE_ok W)
theorem KN.good {W : World} {u g g2 h k p : Nat} (hh : KN W u g g2 h k p) : Good W (moK g2 k) (fun _ => 3) none 0 0 (fun _ => .none) (fun _ => stE (nestE 1)) where
  v := fun _ => ⟨g2, 0, rfl, fun j hj => by
    obtain rfl : j = 0 := by have : j < 1 := hj; omega
    exact vAt_arr (n := 3) (g := g) (nm := { data := #[97] }) (fun i u hu => (by rw [Nat.zero_mul, Nat.add_zero, Nat.zero_add]; exact rowC hh.2.2.2.1.2 i u hu)) hh.2.2.2.1.1 (by decide) (by decide)⟩
  k := fun _ => by omega
  nv := ⟨Nat.le_refl _, by show 1 ≤ 9223372036854775807; omega, by show 1 ≤ 100; omega⟩
  p := fun h => absurd h (Nat.lt_irrefl 0)
  np := ⟨Nat.le_refl _, by show 0 ≤ 9223372036854775807; omega, by show 0 ≤ 1000; omega⟩
  q := fun h => absurd h (by omega)
  nq := ⟨Nat.le_refl _, by omega⟩
  b := sts_body (e := nestE 1) hh.2.2.2.2.1 hh.2.2.2.2.2 hh.ex
  nb := ⟨Nat.le_refl _, by show 1 ≤ 9223372036854775807; omega⟩
  most := by rw [show mostM (moK g2 k).np 0 (fun _ => St.none) (moK g2 k).nb (fun _ => stE (nestE 1)) = 1 + 1 from most_body 1 _]; omega
  units := by rw [show unitsM (moK g2 k).np 0 (fun _ => St.none) (moK g2 k).nb (fun _ => stE (nestE 1)) = 2 * 1 + 2 from units_body 1 _]; omega
theorem KN.size {W : World} {u g g2 h k p : Nat} (hh : KN W u g g2 h k p) : Calls Try.prog 9 #[.agg #[.string { data := #[77] }, .slice none 0 0, .slice none 0 0, .slice none 0 0, .slice none 0 0, .slice (some ⟨g2, 0, none⟩) 1 1, .slice none 0 0, .slice (some ⟨k, 0, none⟩) 1 1], .slice none 0 0] W fun en w' => en = .returned (.tuple #[.int .i64 3, .bool true]) ∧ Below W.heap.size W w' :=
  size_any W (moK g2 k) (.slice none 0 0) 0 [] (fun _ => 3) (Rd.nil W 8) (fun u hu => by cases hu) (by decide) hh.good.v hh.good.k ⟨hh.good.nv.1, hh.good.nv.2.1, by show 1 ≤ 1000; omega⟩ fun V b c hb hc hc1 hc2 => recs_M V b c (moK g2 k) rfl (moAt_of hc 0 (moK g2 k) (fun i hi => by rw [List.getElem?_append_left (by rw [arr_len]; omega), Nat.zero_add])) hc1 hc2
theorem KN.regs {W : World} {u g g2 h k p : Nat} (hh : KN W u g g2 h k p) : Calls Try.prog 5 #[.agg #[.int .i64 9, .int .i64 0, .int .i64 0, .string { data := #[] }, .slice none 0 0, .int .i32 0, .string { data := #[] }, .slice (some ⟨u, 0, none⟩) 2 2]] W fun en w' => en = .returned (.int .i64 2) ∧ Below W.heap.size W w' :=
  regs_prog (nestE 1) W _ _ (by rw [regs_nest]; omega) hh.ex
theorem KN.most {W : World} {u g g2 h k p : Nat} (hh : KN W u g g2 h k p) : Calls Try.prog 10 #[.agg #[.string { data := #[77] }, .slice none 0 0, .slice none 0 0, .slice none 0 0, .slice none 0 0, .slice (some ⟨g2, 0, none⟩) 1 1, .slice none 0 0, .slice (some ⟨k, 0, none⟩) 1 1]] W fun en w' => en = .returned (.int .i64 2) ∧ Below W.heap.size W w' :=
  hh.good.callMost.mono fun en w' ⟨he, hb⟩ => ⟨by rw [he, show mostM (moK g2 k).np 0 (fun _ => St.none) (moK g2 k).nb (fun _ => stE (nestE 1)) = 1 + 1 from most_body 1 _]; rfl, hb⟩
theorem KN.units {W : World} {u g g2 h k p : Nat} (hh : KN W u g g2 h k p) : Calls Try.prog 11 #[.agg #[.string { data := #[77] }, .slice none 0 0, .slice none 0 0, .slice none 0 0, .slice none 0 0, .slice (some ⟨g2, 0, none⟩) 1 1, .slice none 0 0, .slice (some ⟨k, 0, none⟩) 1 1]] W fun en w' => en = .returned (.int .i64 4) ∧ Below W.heap.size W w' :=
  hh.good.callUnits.mono fun en w' ⟨he, hb⟩ => ⟨by rw [he, show unitsM (moK g2 k).np 0 (fun _ => St.none) (moK g2 k).nb (fun _ => stE (nestE 1)) = 2 * 1 + 2 from units_body 1 _]; rfl, hb⟩
theorem KN.check {W : World} {u g g2 h k p : Nat} (hh : KN W u g g2 h k p) (b : Nat) (hb : W.heap[b]? = some (.cells #[.string { data := #[77] }, .slice none 0 0, .slice none 0 0, .slice none 0 0, .slice none 0 0, .slice (some ⟨g2, 0, none⟩) 1 1, .slice none 0 0, .slice (some ⟨k, 0, none⟩) 1 1] 30 (0, 0))) : Calls Try.prog 6 #[.slice (some ⟨b, 0, none⟩) 1 1] W fun en w' => en = .returned (.int .i64 0) ∧ Below W.heap.size W w' :=
  (check_M W b 1 (moK g2 k) (fun _ => 3) none 0 0 _ _ ⟨rowC hb 0 _, rowC hb 1 _, rowC hb 2 _, rowC hb 3 _, rowC hb 4 _, rowC hb 5 _, rowC hb 6 _, rowC hb 7 _⟩ rfl (Nat.le_refl _) (by omega) hh.good 3 rfl).mono fun en w' ⟨E, he, ht, hb⟩ => by
    rw [show mostM (moK g2 k).np 0 (fun _ => St.none) (moK g2 k).nb (fun _ => stE (nestE 1)) = 1 + 1 from most_body 1 _, show unitsM (moK g2 k).np 0 (fun _ => St.none) (moK g2 k).nb (fun _ => stE (nestE 1)) = 2 * 1 + 2 from units_body 1 _] at ht
    rcases ht with ⟨_, j, _, h⟩ | ⟨_, ⟨_, h⟩ | ⟨rfl, _⟩⟩
    · exact absurd (show 12 < 1 + 1 from h) (by omega)
    · exact absurd h (by simp [sumN])
    · exact ⟨he, hb⟩
set_option maxHeartbeats 6400000 in
theorem known_prog (w : World) : Calls Try.prog 4 #[] w fun e w' => e = .returned (.bool true) ∧ Below w.heap.size w w' := by
  go_enter Try.func4, Try.ntmps4
  go_upto_region 2 with fail
  obtain ⟨w2, hw2⟩ : ∃ w2 : World, w2 = (w.alloc (.cells #[.int .i64 0, .int .i64 0, .int .i64 0, .string { data := #[] }, .slice none 0 0, .int .i32 0, .string { data := #[] }, .slice none 0 0, .int .i64 0, .int .i64 0, .int .i64 0, .string { data := #[] }, .slice none 0 0, .int .i32 0, .string { data := #[] }, .slice none 0 0] 36)).alloc (.cells #[.int .i64 9, .int .i64 0, .int .i64 0, .string { data := #[] }, .slice none 0 0, .int .i32 0, .string { data := #[] }, .slice (some ⟨w.heap.size, 0, none⟩) 2 2] 36) := ⟨_, rfl⟩
  have b2 : Below w.heap.size w w2 := by rw [hw2]; exact ((Below.refl _ _).alloc (Nat.le_refl _) _).alloc (by simp) _
  have z2 : w2.heap.size = w.heap.size + 2 := by rw [hw2]; simp
  have u2 : w2.heap[w.heap.size]? = some (.cells #[.int .i64 0, .int .i64 0, .int .i64 0, .string { data := #[] }, .slice none 0 0, .int .i32 0, .string { data := #[] }, .slice none 0 0, .int .i64 0, .int .i64 0, .int .i64 0, .string { data := #[] }, .slice none 0 0, .int .i32 0, .string { data := #[] }, .slice none 0 0] 36 (0, 0)) := by rw [hw2]; exact blk_alloc (heap_alloc_new w _) _
  have e2 : ExG w2 w.heap.size (w.heap.size + 1) := by rw [hw2]; exact atNew (by simp)
  rw [← hw2]
  have B2 := Lib.hid b2
  have U2 := Lib.hid u2
  have E2 := Lib.hid e2
  clear hw2 b2 u2 e2
  refine drawn_facts (N := 10) rfl (fun x => { tmps := #[.bool false, .pointer (some ⟨w.heap.size + 1, 0, none⟩), x 9, undef, undef, .agg #[.int .i64 0, .int .i64 0, .int .i64 0, .string { data := #[] }, .slice none 0 0, .int .i32 0, .string { data := #[] }, .slice none 0 0], .agg #[.int .i64 0, .int .i64 0, .int .i64 0, .string { data := #[] }, .slice none 0 0, .int .i32 0, .string { data := #[] }, .slice none 0 0],
      .slice (some ⟨w.heap.size, 0, none⟩) 2 2, .agg #[.int .i64 9, .int .i64 0, .int .i64 0, .string { data := #[] }, .slice none 0 0, .int .i32 0, .string { data := #[] }, .slice (some ⟨w.heap.size, 0, none⟩) 2 2],
      x 0, x 1, x 2, x 3, x 4, x 5, x 6, x 7, x 8, undef, undef, undef, undef, undef, undef, undef, undef, undef, undef, undef, undef, undef, undef, undef, undef, undef, undef, undef, undef, undef, undef, undef, undef, undef, undef, undef, undef, undef, undef, undef], defers := [] }) (fun _ => undef) (PsiK w.heap.size) rfl (by kernel_rfl) (by kernel_rfl) rfl (psiK_keep _) ?_ ?_
  · intro j hj x W K hb hp hK
    match j, hj with
    | 0, _ =>
      simp only [upd, Nat.reduceBEq, cond_true, cond_false] at hK
      try dsimp only
      refine wpOp_step (o := ?_) ?_ (fun K' hK' => ?_)
      rotate_left
      focus (simp only [List.getElem?_toArray, List.getElem?_cons_succ, List.getElem?_cons_zero] <;> rfl)
      go_simp
      go_at_call 8
      refine (basic_prog _ _).mono ?_
      rintro e W' ⟨rfl, hbw⟩
      exact hK' _ _ (hK _ _ rfl hbw)
    | 1, _ =>
      simp only [upd, Nat.reduceBEq, cond_true, cond_false] at hK
      try dsimp only
      have e0 : x 0 = _ := hp 0 (by kernel_rfl)
      generalize x 0 = y0 at hK e0 ⊢
      subst e0
      refine wpOp_step (o := ?_) ?_ (fun K' hK' => ?_)
      rotate_left
      focus (simp only [List.getElem?_toArray, List.getElem?_cons_succ, List.getElem?_cons_zero] <;> rfl)
      go_simp
      go_at_call 7
      refine (arr_prog _ _).mono ?_
      rintro e W' ⟨⟨g, rfl, _, tg⟩, hbw⟩
      exact hK' _ _ (hK _ _ ⟨g, rfl, tg⟩ hbw)
    | 2, _ =>
      simp only [upd, Nat.reduceBEq, cond_true, cond_false] at hK
      try dsimp only
      obtain ⟨g, e1, tg⟩ := hp 1 (by kernel_rfl)
      generalize x 1 = y1 at hK e1 ⊢
      subst e1
      refine wpOp_step (o := ?_) ?_ (fun K' hK' => ?_)
      rotate_left
      focus (simp only [List.getElem?_toArray, List.getElem?_cons_succ, List.getElem?_cons_zero] <;> rfl)
      go_simp
      exact hK' _ _ (hK _ _ ⟨g, rfl, tg⟩ (Below.refl _ _))
    | 3, _ =>
      simp only [upd, Nat.reduceBEq, cond_true, cond_false] at hK
      try dsimp only
      obtain ⟨g, e2, tg⟩ := hp 2 (by kernel_rfl)
      generalize x 2 = y2 at hK e2 ⊢
      subst e2
      refine wpOp_step (o := ?_) ?_ (fun K' hK' => ?_)
      rotate_left
      focus (simp only [List.getElem?_toArray, List.getElem?_cons_succ, List.getElem?_cons_zero] <;> rfl)
      go_simp
      exact hK' _ _ (hK _ _ ⟨g, _, rfl, heap_keep tg ((Below.refl _ _).alloc (Nat.le_refl _) _), heap_alloc_new W _⟩ ((Below.refl _ _).alloc (Nat.le_refl _) _))
    | 4, _ =>
      have eW : ExG W w.heap.size (w.heap.size + 1) := (hb.block _ (by show w.heap.size + 1 < w2.heap.size; omega)).trans E2.out
      have c0 := rowC eW 0 _
      have c1 := rowC eW 1 _
      have c2 := rowC eW 2 _
      have c3 := rowC eW 3 _
      have c4 := rowC eW 4 _
      have c5 := rowC eW 5 _
      have c6 := rowC eW 6 _
      have c7 := rowC eW 7 _
      simp only [upd, Nat.reduceBEq, cond_true, cond_false] at hK
      try dsimp only
      refine wpOp_step (o := ?_) ?_ (fun K' hK' => ?_)
      rotate_left
      focus (simp only [List.getElem?_toArray, List.getElem?_cons_succ, List.getElem?_cons_zero] <;> rfl)
      go_simp
      exact hK' _ _ (hK _ _ rfl (Below.refl _ _))
    | 5, _ =>
      simp only [upd, Nat.reduceBEq, cond_true, cond_false] at hK
      try dsimp only
      have e4 : x 4 = _ := hp 4 (by kernel_rfl)
      generalize x 4 = y4 at hK e4 ⊢
      subst e4
      refine wpOp_step (o := ?_) ?_ (fun K' hK' => ?_)
      rotate_left
      focus (simp only [List.getElem?_toArray, List.getElem?_cons_succ, List.getElem?_cons_zero] <;> rfl)
      go_simp
      exact hK' _ _ (hK _ _ ⟨_, rfl, heap_alloc_new W _⟩ ((Below.refl _ _).alloc (Nat.le_refl _) _))
    | 6, _ =>
      simp only [upd, Nat.reduceBEq, cond_true, cond_false] at hK
      try dsimp only
      obtain ⟨h, e5, th⟩ := hp 5 (by kernel_rfl)
      generalize x 5 = y5 at hK e5 ⊢
      subst e5
      refine wpOp_step (o := ?_) ?_ (fun K' hK' => ?_)
      rotate_left
      focus (simp only [List.getElem?_toArray, List.getElem?_cons_succ, List.getElem?_cons_zero] <;> rfl)
      go_simp
      exact hK' _ _ (hK _ _ ⟨h, rfl, th⟩ (Below.refl _ _))
    | 7, _ =>
      simp only [upd, Nat.reduceBEq, cond_true, cond_false] at hK
      try dsimp only
      obtain ⟨h, e6, th⟩ := hp 6 (by kernel_rfl)
      generalize x 6 = y6 at hK e6 ⊢
      subst e6
      refine wpOp_step (o := ?_) ?_ (fun K' hK' => ?_)
      rotate_left
      focus (simp only [List.getElem?_toArray, List.getElem?_cons_succ, List.getElem?_cons_zero] <;> rfl)
      go_simp
      exact hK' _ _ (hK _ _ ⟨h, _, rfl, heap_keep th ((Below.refl _ _).alloc (Nat.le_refl _) _), heap_alloc_new W _⟩ ((Below.refl _ _).alloc (Nat.le_refl _) _))
    | 8, _ =>
      simp only [upd, Nat.reduceBEq, cond_true, cond_false] at hK
      try dsimp only
      obtain ⟨g, g2, e3, tv⟩ := hp 3 (by kernel_rfl)
      generalize x 3 = y3 at hK e3 ⊢
      subst e3
      obtain ⟨h, k, e7, ts⟩ := hp 7 (by kernel_rfl)
      generalize x 7 = y7 at hK e7 ⊢
      subst e7
      refine wpOp_step (o := ?_) ?_ (fun K' hK' => ?_)
      rotate_left
      focus (simp only [List.getElem?_toArray, List.getElem?_cons_succ, List.getElem?_cons_zero] <;> rfl)
      go_simp
      exact hK' _ _ (hK _ _ ⟨g, g2, h, k, rfl, tv, ts⟩ (Below.refl _ _))
    | 9, _ =>
      simp only [upd, Nat.reduceBEq, cond_true, cond_false] at hK
      try dsimp only
      refine wpOp_step (o := ?_) ?_ (fun K' hK' => ?_)
      rotate_left
      focus (simp only [List.getElem?_toArray, List.getElem?_cons_succ, List.getElem?_cons_zero] <;> rfl)
      go_simp
      exact hK' _ _ (hK _ _ ⟨_, rfl, by have h := hb.size; have e : w2.drew.heap.size = w2.heap.size := rfl; omega, heap_alloc_new W _⟩ ((Below.refl _ _).alloc (Nat.le_refl _) _))
  · intro x W K hb hp hK
    obtain ⟨g, g2, h, k, e8, tv, ts⟩ := hp 8 (by omega)
    obtain ⟨p, e9, hpu, tp⟩ := hp 9 (by omega)
    try dsimp only
    generalize x 8 = y8 at e8 ⊢
    generalize x 9 = y9 at e9 ⊢
    subst e8 e9
    have TP := Lib.hid (show W.heap[p]? = _ from tp)
    have hpl : p < W.heap.size := (Array.getElem?_eq_some_iff.1 tp).1
    have hc : ∀ i, i < 8 → (W.cell? ⟨p, i, none⟩).isSome = true := fun i hi => some8 tp i hi
    have c0 := rowC tp 0 _
    have f0 := frozen_of_row W p 0 _ _ tp
    have c1 := rowC tp 1 _
    have f1 := frozen_of_row W p 1 _ _ tp
    have c2 := rowC tp 2 _
    have f2 := frozen_of_row W p 2 _ _ tp
    have c3 := rowC tp 3 _
    have f3 := frozen_of_row W p 3 _ _ tp
    have c4 := rowC tp 4 _
    have f4 := frozen_of_row W p 4 _ _ tp
    have c5 := rowC tp 5 _
    have f5 := frozen_of_row W p 5 _ _ tp
    have c6 := rowC tp 6 _
    have f6 := frozen_of_row W p 6 _ _ tp
    have c7 := rowC tp 7 _
    have f7 := frozen_of_row W p 7 _ _ tp
    have EW := Lib.hid (show ExG W w.heap.size (w.heap.size + 1) from (hb.block _ (by show w.heap.size + 1 < w2.heap.size; omega)).trans E2.out)
    have UW := Lib.hid ((hb.block _ (by show w.heap.size < w2.heap.size; omega)).trans U2.out)
    have BW := Lib.hid (show Below w.heap.size w W from (B2.out.drew).trans (hb.mono (by show w.heap.size ≤ w2.heap.size; omega)))
    have TV := Lib.hid tv
    have TS := Lib.hid ts
    have hne : ∀ (g : Nat) (cs : Array Value) (T : TypeId), W.heap[g]? = some (.cells cs T (0, 0)) → T ≠ 30 → g ≠ p := fun g cs T hg hT e => by
      rw [e, TP.out] at hg
      injection hg with hg
      injection hg with _ hg
      exact hT hg.symm
    have HNE := Lib.hid hne
    clear tp hp hb tv ts hne
    refine wpOp_step (o := ?_) ?_ (fun K' hK' => ?_)
    rotate_left
    focus (simp only [List.getElem?_toArray, List.getElem?_cons_succ, List.getElem?_cons_zero] <;> rfl)
    go_simp
    obtain ⟨W5, hW5⟩ : ∃ W5 : World, W5 = ((((((((W.setCell ⟨p, 0, none⟩ (.string { data := #[77] })).setCell ⟨p, 1, none⟩ (.slice none 0 0)).setCell ⟨p, 2, none⟩ (.slice none 0 0)).setCell ⟨p, 3, none⟩ (.slice none 0 0)).setCell ⟨p, 4, none⟩ (.slice none 0 0)).setCell ⟨p, 5, none⟩ (.slice (some ⟨g2, 0, none⟩) 1 1)).setCell ⟨p, 6, none⟩ (.slice none 0 0)).setCell ⟨p, 7, none⟩ (.slice (some ⟨k, 0, none⟩) 1 1)) := ⟨_, rfl⟩
    have hs8 := set8 TP.out (.string { data := #[77] }) (.slice none 0 0) (.slice none 0 0) (.slice none 0 0) (.slice none 0 0) (.slice (some ⟨g2, 0, none⟩) 1 1) (.slice none 0 0) (.slice (some ⟨k, 0, none⟩) 1 1)
    have hb5 : Below w.heap.size w W5 := by rw [hW5]; exact ((((((((BW.out.setCell (p := ⟨p, 0, none⟩) (by show w.heap.size ≤ p; omega) _).setCell (p := ⟨p, 1, none⟩) (by show w.heap.size ≤ p; omega) _).setCell (p := ⟨p, 2, none⟩) (by show w.heap.size ≤ p; omega) _).setCell (p := ⟨p, 3, none⟩) (by show w.heap.size ≤ p; omega) _).setCell (p := ⟨p, 4, none⟩) (by show w.heap.size ≤ p; omega) _).setCell (p := ⟨p, 5, none⟩) (by show w.heap.size ≤ p; omega) _).setCell (p := ⟨p, 6, none⟩) (by show w.heap.size ≤ p; omega) _).setCell (p := ⟨p, 7, none⟩) (by show w.heap.size ≤ p; omega) _)
    rw [← hW5] at hs8 ⊢
    obtain ⟨s1, s2, s3⟩ := hs8
    have MW := Lib.hid s1
    have B5 := Lib.hid hb5
    have E5 := Lib.hid (show ExG W5 w.heap.size (w.heap.size + 1) from (s2 _ (HNE.out _ _ _ EW.out (by decide))).trans EW.out)
    have U5 := Lib.hid ((s2 _ (HNE.out _ _ _ UW.out (by decide))).trans UW.out)
    have V5 := Lib.hid (show VrG W5 3 { data := #[97] } g g2 from ⟨(s2 _ (HNE.out _ _ _ TV.out.1 (by decide))).trans TV.out.1, (s2 _ (HNE.out _ _ _ TV.out.2 (by decide))).trans TV.out.2⟩)
    have S5 := Lib.hid (show StG W5 w.heap.size h k from ⟨(s2 _ (HNE.out _ _ _ TS.out.1 (by decide))).trans TS.out.1, (s2 _ (HNE.out _ _ _ TS.out.2 (by decide))).trans TS.out.2⟩)
    have hps : p < W5.heap.size := by rw [s3]; exact hpl
    refine hK' _ _ (hK _ _ ?_)
    clear hK hK' hW5 s1 s2 s3 hb5 EW UW TV TS HNE TP BW hc c0 f0 c1 f1 c2 f2 c3 f3 c4 f4 c5 f5 c6 f6 c7 f7
    have K5 := Lib.hid (show KN W5 w.heap.size g g2 h k p from ⟨MW.out, U5.out, E5.out, V5.out, S5.out⟩)
    clear MW U5 E5 V5 S5
    have m0 := rowC K5.out.1 0 _
    have m1 := rowC K5.out.1 1 _
    have m2 := rowC K5.out.1 2 _
    have m3 := rowC K5.out.1 3 _
    have m4 := rowC K5.out.1 4 _
    have m5 := rowC K5.out.1 5 _
    have m6 := rowC K5.out.1 6 _
    have m7 := rowC K5.out.1 7 _
    go_wp2_with fail
    refine K5.out.size.mono ?_
    rintro en w6 ⟨rfl, hb6⟩
    have K6 := Lib.hid (K5.out.keep hb6)
    have B6 := Lib.hid (B5.out.trans (hb6.mono B5.out.size))
    have hps6 : p < w6.heap.size := Nat.lt_of_lt_of_le hps hb6.size
    clear hb6 m0 m1 m2 m3 m4 m5 m6 m7
    have m0 := rowC K6.out.2.2.1 0 _
    have m1 := rowC K6.out.2.2.1 1 _
    have m2 := rowC K6.out.2.2.1 2 _
    have m3 := rowC K6.out.2.2.1 3 _
    have m4 := rowC K6.out.2.2.1 4 _
    have m5 := rowC K6.out.2.2.1 5 _
    have m6 := rowC K6.out.2.2.1 6 _
    have m7 := rowC K6.out.2.2.1 7 _
    go_wp2_with fail
    refine K6.out.regs.mono ?_
    rintro en w7 ⟨rfl, hb7⟩
    have K7 := Lib.hid (K6.out.keep hb7)
    have B7 := Lib.hid (B6.out.trans (hb7.mono B6.out.size))
    have hps7 : p < w7.heap.size := Nat.lt_of_lt_of_le hps6 hb7.size
    clear hb7 m0 m1 m2 m3 m4 m5 m6 m7
    have m0 := rowC K7.out.1 0 _
    have m1 := rowC K7.out.1 1 _
    have m2 := rowC K7.out.1 2 _
    have m3 := rowC K7.out.1 3 _
    have m4 := rowC K7.out.1 4 _
    have m5 := rowC K7.out.1 5 _
    have m6 := rowC K7.out.1 6 _
    have m7 := rowC K7.out.1 7 _
    go_wp2_with fail
    refine K7.out.most.mono ?_
    rintro en w8 ⟨rfl, hb8⟩
    have K8 := Lib.hid (K7.out.keep hb8)
    have B8 := Lib.hid (B7.out.trans (hb8.mono B7.out.size))
    have hps8 : p < w8.heap.size := Nat.lt_of_lt_of_le hps7 hb8.size
    clear hb8 m0 m1 m2 m3 m4 m5 m6 m7
    have m0 := rowC K8.out.1 0 _
    have m1 := rowC K8.out.1 1 _
    have m2 := rowC K8.out.1 2 _
    have m3 := rowC K8.out.1 3 _
    have m4 := rowC K8.out.1 4 _
    have m5 := rowC K8.out.1 5 _
    have m6 := rowC K8.out.1 6 _
    have m7 := rowC K8.out.1 7 _
    go_wp2_with fail
    have hba : Below w8.heap.size w8 (w8.alloc (.cells #[.string { data := #[77] }, .slice none 0 0, .slice none 0 0, .slice none 0 0, .slice none 0 0, .slice (some ⟨g2, 0, none⟩) 1 1, .slice none 0 0, .slice (some ⟨k, 0, none⟩) 1 1] 30)) := (Below.refl _ _).alloc (Nat.le_refl _) _
    refine ((K8.out.keep hba).check w8.heap.size (heap_alloc_new w8 _)).mono ?_
    rintro en w9 ⟨rfl, hb9⟩
    have K9 := Lib.hid ((K8.out.keep hba).keep hb9)
    have B9 := Lib.hid ((B8.out.trans (hba.mono B8.out.size)).trans (hb9.mono (Nat.le_trans B8.out.size hba.size)))
    have hps9 : p < w9.heap.size := Nat.lt_of_lt_of_le hps8 (Nat.le_trans hba.size hb9.size)
    clear hb9 hba m0 m1 m2 m3 m4 m5 m6 m7
    have m0 := rowC K9.out.1 0 _
    have m1 := rowC K9.out.1 1 _
    have m2 := rowC K9.out.1 2 _
    have m3 := rowC K9.out.1 3 _
    have m4 := rowC K9.out.1 4 _
    have m5 := rowC K9.out.1 5 _
    have m6 := rowC K9.out.1 6 _
    have m7 := rowC K9.out.1 7 _
    go_wp2_with fail
    refine K9.out.units.mono ?_
    rintro en w10 ⟨rfl, hb10⟩
    have B10 := Lib.hid (B9.out.trans (hb10.mono B9.out.size))
    clear hb10 m0 m1 m2 m3 m4 m5 m6 m7
    go_wp2_with fail
    go_ret
    exact ⟨rfl, B10.out⟩
end Go.Proofs.Ytmidkomdmnncoaa
