/- Trees: a clone of a module of one flat statement. (Printed by wip/scripts/gen_tr20.py.) -/
import Derived.Test.YtipcnkgojonmjaaTr19
import Derived.Test.YtipcnkgojonmjaaOrd
namespace Go.Proofs.Ytipcnkgojonmjaa
open Go.RowKit Go.Waf
set_option maxRecDepth 100000
set_option linter.unusedVariables false
set_option linter.unusedSimpArgs false

theorem elemStmt : Elem Try.prog 28 40 4 80 := Elem.mk' (z := .agg #[.int .i64 0, .slice none 0 0, .slice none 0 0, .slice none 0 0]) Try.underlying28 (by kernel_rfl) rfl (by decide)
def stL (s : St) (xv : Value) : List Value := [.int .i64 s.op, xv, .slice none 0 0, .slice none 0 0]
theorem stL_one (s : St) (a : Option Addr) (n c : Nat) : ∀ u ∈ stL s (.slice a n c), u.oneCell' = true := by
  intro u hu
  simp only [stL, List.mem_cons, List.not_mem_nil, or_false] at hu
  rcases hu with rfl | rfl | rfl | rfl <;> rfl
/-- A body of one flat statement, in F's blocks. -/
def BodyB (F : Nat → Prop) (w : World) (v : Value) (s : St) : Prop := ∃ b o cap xv, v = .slice (some ⟨b, o, none⟩) 1 cap ∧ 1 ≤ cap ∧ cap ≤ 9223372036854775807 ∧ F b ∧ ExsInB F w xv s.nx s.x ∧ StCells w b o s.op xv (.slice none 0 0) (.slice none 0 0)
theorem BodyB.imp {F F' : Nat → Prop} {w w' : World} (hF : ∀ b, F b → F' b) (hk : Keeps F w w') {v : Value} {s : St} (h : BodyB F w v s) : BodyB F' w' v s := by
  obtain ⟨b, o, cap, xv, rfl, h1, h2, hb, hx, ⟨c0, c1, c2, c3⟩⟩ := h
  exact ⟨b, o, cap, xv, rfl, h1, h2, hF b hb, hx.imp hF hk, ⟨hk _ _ _ hb c0, hk _ _ _ hb c1, hk _ _ _ hb c2, hk _ _ _ hb c3⟩⟩
theorem BodyB.sts {F : Nat → Prop} {w : World} {v : Value} {f : Nat → St} (h : BodyB F w v (f 0)) (hf : Flat (f 0)) (hn : f 0 ≠ .none) : StsIn w v 1 f := by
  obtain ⟨b, o, cap, xv, rfl, h1, h2, _, hx, hc⟩ := h
  refine ⟨_, cap, rfl, h1, h2, fun _ => ⟨b, o, rfl, fun i hi => ?_⟩⟩
  obtain rfl : i = 0 := by omega
  refine ⟨xv, .slice none 0 0, .slice none 0 0, ?_, by simpa using hc⟩
  have hx := hx.ok
  generalize f 0 = s at hx hf hn
  obtain ⟨hb, hi⟩ := hf
  cases s with
  | none => exact absurd rfl hn
  | mk op nx x nb bl b ni is =>
    have hb : nb = 0 := hb
    have hi : ni = 0 := hi
    subst hb hi
    exact ⟨hx, IntsIn.nil _ _, none, 0, rfl, Nat.le_refl _, by decide, fun h => absurd h (by omega)⟩
set_option maxHeartbeats 6400000 in
theorem each_St1 (w : World) (a : Option Addr) (c : Nat) (f : Nat → St) (h1 : 1 ≤ c) (h2 : c ≤ 9223372036854775807) (hx : StsAt w a 1 f) (hf : Flat (f 0)) (hcl : Cl (f 0)) (hi : ∀ b o, a = some ⟨b, o, none⟩ → w.cell? ⟨b, o + 3, none⟩ = some (.slice none 0 0)) :
    Calls Try.prog 87 #[.slice a 1 c, .func (.func 88) #[] #[]] w fun en w' => (∃ v, en = .returned v ∧ BodyB (New w.heap.size) w' v (f 0)) ∧ Below w.heap.size w w' := by
  obtain ⟨b, o, rfl, hc⟩ := hx (by omega)
  obtain ⟨xv, bv, iv, hok, ⟨c0, c1, c2, c3⟩⟩ := hc 0 (by omega)
  have c3' := hi b o rfl
  simp only [Nat.zero_mul, Nat.add_zero] at c0 c1 c2 c3
  obtain rfl : iv = .slice none 0 0 := by rw [c3'] at c3; exact (Option.some.inj c3).symm
  obtain ⟨S, hS⟩ : ∃ S, S = f 0 := ⟨_, rfl⟩
  rw [← hS] at c0 hf hcl hok
  rw [← hS]
  have HC := Lib.hid (fun W (hb : Below w.heap.size w W) => cloneStmt_flat S hf hcl W xv bv (StOk.below hb (Nat.le_refl _) _ _ _ _ hok))
  obtain ⟨⟨xa, xc, rfl, _, _, _⟩, _, ba, bc, rfl, _, _, _⟩ := hok.open
  unfold stV at HC
  have eg := enters_of Try.func88 (by kernel_rfl) rfl
  have HCC := Lib.hid (fun W (hb : Below w.heap.size w W) => (⟨cell_below hb (Nat.le_refl _) c0, cell_below hb (Nat.le_refl _) c1, cell_below hb (Nat.le_refl _) c2, cell_below hb (Nat.le_refl _) c3⟩ : W.cell? ⟨b, o, none⟩ = _ ∧ W.cell? ⟨b, o + 1, none⟩ = _ ∧ W.cell? ⟨b, o + 2, none⟩ = _ ∧ W.cell? ⟨b, o + 3, none⟩ = _))
  clear hx hf hcl hi hc hok c0 c1 c2 c3 c3' hS
  go_enter Try.func87, Try.ntmps87
  go_wp2_with fail
  go_loopw [5, 10] (fun v z wr => ((z = .int .i64 0 ∧ v = .slice none 0 0) ∨ (z = .int .i64 1 ∧ BodyB (New w.heap.size) wr v S)) ∧ Below w.heap.size w wr) (fun _ z _ => 1 - (intOf z).toNat)
  case atStart => exact ⟨.inl ⟨rfl, rfl⟩, Below.refl _ _⟩
  case round =>
    obtain ⟨hrel, hb⟩ := hrel
    obtain ⟨wo, rfl⟩ : ∃ wo : World, wo = wr := ⟨_, rfl⟩
    rcases hrel with ⟨rfl, rfl⟩ | ⟨rfl, hbody⟩
    · obtain ⟨c0, c1, c2, c3⟩ := HCC.out wo hb
      have HB := Lib.hid hb
      have hsz := hb.size
      clear hb
      go_wp2_with fail
      refine (HC.out _ (HB.out.alloc hsz _)).mono ?_
      rintro en w2 ⟨⟨xv', rfl, hx'⟩, hb2⟩
      have hx0 := hx'
      obtain ⟨ya, yc, rfl, _, _, _⟩ := hx'
      have HX := Lib.hid (ExsInB.imp (F' := New w.heap.size) (fun b hb => Nat.le_trans (by simp; omega) hb) (Keeps.below (Below.refl _ w2)) hx0)
      have hb12 : Below wo.heap.size wo w2 := ((Below.refl _ wo).alloc (Nat.le_refl _) _).trans (hb2.mono (by simp))
      have HB2 := Lib.hid (HB.out.trans (hb12.mono hsz))
      have hz2 := HB2.out.size
      clear hb2 hb12
      go_wp2_with (at_builtin; refine app_own _ elemStmt rfl _ _ rfl w.heap.size (.slice none 0 0) 0 [] rfl (World.ownsRow_nil _ _ _ _) _ 1 (stL S (.slice ya S.nx yc)) rfl (rd_newAt _ (by simp) _ _ _ _ (by rfl) (by decide)) (stL_one _ _ _ _) (by decide) (by decide) (by simp; omega) ?_; intro v3 w3 ho3 hg3)
      have hb3 : Below w2.heap.size w2 w3 := below_of_grown_none ((Below.refl _ w2).alloc (Nat.le_refl _) _) (by simp) hg3
      go_roundw
      case rel =>
        refine ⟨.inr ⟨by go_num, ?_⟩, HB2.out.trans (hb3.mono hz2)⟩
        have ho3' : w3.ownsRow w.heap.size 40 4 v3 1 (stL S (.slice ya S.nx yc)) := by simpa using ho3
        obtain ⟨_, a', cap, hv, p1, p2, _, p4⟩ := rd_of_owns ho3'
        obtain ⟨b', o', ha, hc⟩ := p4 (by omega)
        have hb' : w.heap.size ≤ b' := (ho3'.lt b' (by rw [hv, ha]; rfl)).1
        exact ⟨b', o', cap, _, by rw [hv, ha], p1, by simpa [maxLen] using p2, hb', HX.out.imp (fun b hb => hb) (Keeps.below hb3), ⟨by simpa using hc 0 _ rfl, hc 1 _ rfl, hc 2 _ rfl, hc 3 _ rfl⟩⟩
      case measure => simp [intOf]
    · have HB := Lib.hid hb
      have HBO := Lib.hid hbody
      obtain ⟨b', o', cap, xv', rfl, _⟩ := hbody
      clear hb
      go_wp2_with fail
      go_ret
      exact ⟨⟨_, rfl, HBO.out⟩, HB.out⟩
set_option maxHeartbeats 3200000 in
theorem cloneBody1 (w : World) (a : Option Addr) (c : Nat) (f : Nat → St) (h1 : 1 ≤ c) (h2 : c ≤ 9223372036854775807) (hx : StsAt w a 1 f) (hf : Flat (f 0)) (hcl : Cl (f 0)) (hi : ∀ b o, a = some ⟨b, o, none⟩ → w.cell? ⟨b, o + 3, none⟩ = some (.slice none 0 0)) :
    Calls Try.prog 55 #[.slice a 1 c] w fun en w' => (∃ v, en = .returned v ∧ BodyB (New w.heap.size) w' v (f 0)) ∧ Below w.heap.size w w' := by
  have H := Lib.hid (each_St1 w a c f h1 h2 hx hf hcl hi)
  clear hx hf hcl hi
  go_enter Try.func55, Try.ntmps55
  go_wp2_with fail
  refine H.out.mono ?_
  rintro en w2 ⟨⟨v, rfl, hv⟩, hb⟩
  have HV := Lib.hid hv
  have HB := Lib.hid hb
  obtain ⟨b', o', cap, xv', rfl, _⟩ := hv
  clear hb
  go_wp2_with fail
  go_ret
  exact ⟨⟨_, rfl, HV.out⟩, HB.out⟩
set_option maxHeartbeats 3200000 in
theorem each_none_Const (w : World) (g : Value) : Calls Try.prog 47 #[.slice none 0 0, g] w fun en w' => en = .returned (.slice none 0 0) ∧ w = w' := by
  go_enter Try.func47, Try.ntmps47
  go_wp2_with fail
  go_loop [5, 10] (fun v z => v = .slice none 0 0 ∧ z = .int .i64 0) (fun _ z => 0)
  case atStart => exact ⟨rfl, rfl⟩
  case round =>
    obtain ⟨rfl, rfl⟩ := hrel
    go_wp2_with fail
    go_ret
    exact ⟨rfl, rfl⟩
set_option maxHeartbeats 3200000 in
theorem each_none_Var (w : World) (g : Value) : Calls Try.prog 49 #[.slice none 0 0, g] w fun en w' => en = .returned (.slice none 0 0) ∧ w = w' := by
  go_enter Try.func49, Try.ntmps49
  go_wp2_with fail
  go_loop [5, 10] (fun v z => v = .slice none 0 0 ∧ z = .int .i64 0) (fun _ z => 0)
  case atStart => exact ⟨rfl, rfl⟩
  case round =>
    obtain ⟨rfl, rfl⟩ := hrel
    go_wp2_with fail
    go_ret
    exact ⟨rfl, rfl⟩
set_option maxHeartbeats 3200000 in
theorem each_none_Rec (w : World) (g : Value) : Calls Try.prog 51 #[.slice none 0 0, g] w fun en w' => en = .returned (.slice none 0 0) ∧ w = w' := by
  go_enter Try.func51, Try.ntmps51
  go_wp2_with fail
  go_loop [5, 10] (fun v z => v = .slice none 0 0 ∧ z = .int .i64 0) (fun _ z => 0)
  case atStart => exact ⟨rfl, rfl⟩
  case round =>
    obtain ⟨rfl, rfl⟩ := hrel
    go_wp2_with fail
    go_ret
    exact ⟨rfl, rfl⟩
set_option maxHeartbeats 3200000 in
theorem each_none_Proc (w : World) (g : Value) : Calls Try.prog 53 #[.slice none 0 0, g] w fun en w' => en = .returned (.slice none 0 0) ∧ w = w' := by
  go_enter Try.func53, Try.ntmps53
  go_wp2_with fail
  go_loop [5, 10] (fun v z => v = .slice none 0 0 ∧ z = .int .i64 0) (fun _ z => 0)
  case atStart => exact ⟨rfl, rfl⟩
  case round =>
    obtain ⟨rfl, rfl⟩ := hrel
    go_wp2_with fail
    go_ret
    exact ⟨rfl, rfl⟩
set_option maxHeartbeats 6400000 in
theorem clone_prog (w : World) (ba : Option Addr) (bc : Nat) (f : Nat → St) (h1 : 1 ≤ bc) (h2 : bc ≤ 9223372036854775807) (hx : StsAt w ba 1 f) (hf : Flat (f 0)) (hcl : Cl (f 0)) (hi : ∀ b o, ba = some ⟨b, o, none⟩ → w.cell? ⟨b, o + 3, none⟩ = some (.slice none 0 0)) :
    Calls Try.prog 11 #[modV none 0 0 ba 1 bc] w fun en w' => (∃ b o cap, en = .returned (modV none 0 0 (some ⟨b, o, none⟩) 1 cap) ∧ BodyB (New w.heap.size) w' (.slice (some ⟨b, o, none⟩) 1 cap) (f 0)) ∧ Below w.heap.size w w' := by
  unfold modV
  obtain ⟨w1, hw1⟩ : ∃ w1 : World, w1 = (w.alloc (.cells #[.string { data := #[77] }, .slice none 0 0, .slice none 0 0, .slice none 0 0, .slice none 0 0, .slice none 0 0, .slice none 0 0, .slice ba 1 bc] 30)).alloc (.cells #[.string { data := #[] }, .slice none 0 0, .slice none 0 0, .slice none 0 0, .slice none 0 0, .slice none 0 0, .slice none 0 0, .slice none 0 0] 30) := ⟨_, rfl⟩
  have hb1 : Below w.heap.size w w1 := by rw [hw1]; exact ((Below.refl _ _).alloc (Nat.le_refl _) _).alloc (by simp) _
  have HZ := Lib.hid (show w1.heap[w.heap.size]? = some (.cells #[.string { data := #[77] }, .slice none 0 0, .slice none 0 0, .slice none 0 0, .slice none 0 0, .slice none 0 0, .slice none 0 0, .slice ba 1 bc] 30 (0, 0)) from by rw [hw1]; exact heap_alloc2_old w _ _)
  have HY := Lib.hid (show w1.heap[w.heap.size + 1]? = some (.cells #[.string { data := #[] }, .slice none 0 0, .slice none 0 0, .slice none 0 0, .slice none 0 0, .slice none 0 0, .slice none 0 0, .slice none 0 0] 30 (0, 0)) from by rw [hw1]; exact heap_alloc2_new w _ _)
  obtain ⟨wd, hwd⟩ : ∃ wd : World, wd = w1.drew := ⟨_, rfl⟩
  have hbd : Below w1.heap.size w1 wd := by rw [hwd]; exact Below.drew (Below.refl _ w1)
  have hb0 : Below w.heap.size w wd := hb1.trans (hbd.mono hb1.size)
  have HBD := Lib.hid (cloneBody1 wd ba bc f h1 h2 (StsAt.below hx hb0 (Nat.le_refl _)) hf hcl (fun b o e => cell_below hb0 (Nat.le_refl _) (hi b o e)))
  have HKS := Lib.hid (show ∀ W, Below wd.heap.size wd W → W.cell? ⟨w.heap.size, 0, none⟩ = some (.string { data := #[77] }) ∧ W.cell? ⟨w.heap.size, 1, none⟩ = some (.slice none 0 0) ∧ W.cell? ⟨w.heap.size, 2, none⟩ = some (.slice none 0 0) ∧ W.cell? ⟨w.heap.size, 3, none⟩ = some (.slice none 0 0) ∧ W.cell? ⟨w.heap.size, 4, none⟩ = some (.slice none 0 0) ∧ W.cell? ⟨w.heap.size, 5, none⟩ = some (.slice none 0 0) ∧ W.cell? ⟨w.heap.size, 6, none⟩ = some (.slice none 0 0) ∧ W.cell? ⟨w.heap.size, 7, none⟩ = some (.slice ba 1 bc) from fun W hbw => by
    have hw := hbd.trans (hbw.mono hbd.size)
    exact ⟨cell_below hw (Nat.le_refl _) (rowC HZ.out 0 _), cell_below hw (Nat.le_refl _) (rowC HZ.out 1 _), cell_below hw (Nat.le_refl _) (rowC HZ.out 2 _), cell_below hw (Nat.le_refl _) (rowC HZ.out 3 _), cell_below hw (Nat.le_refl _) (rowC HZ.out 4 _), cell_below hw (Nat.le_refl _) (rowC HZ.out 5 _), cell_below hw (Nat.le_refl _) (rowC HZ.out 6 _), cell_below hw (Nat.le_refl _) (rowC HZ.out 7 _)⟩)
  have HS := Lib.hid (HKS.out wd (Below.refl _ _))
  have HB0 := Lib.hid hb0
  have HDB := Lib.hid hbd
  have HWD := Lib.hid hwd
  have HW1 := Lib.hid hw1
  have L0 := clone_none_Str
  have L1 := each_none_Const
  have L2 := each_none_Var
  have L3 := each_none_Rec
  have L4 := each_none_Proc
  clear hx hf hcl hi hw1 hb1 hwd hbd hb0
  go_enter Try.func11, Try.ntmps11
  go_wp2_with fail
  rw [← HW1.out]
  refine wp_region_till 24 (fun W : World => W.cell? ⟨w.heap.size, 0, none⟩ = some (.string { data := #[77] }) ∧ W.cell? ⟨w.heap.size, 1, none⟩ = some (.slice none 0 0) ∧ W.cell? ⟨w.heap.size, 2, none⟩ = some (.slice none 0 0) ∧ W.cell? ⟨w.heap.size, 3, none⟩ = some (.slice none 0 0) ∧ W.cell? ⟨w.heap.size, 4, none⟩ = some (.slice none 0 0) ∧ W.cell? ⟨w.heap.size, 5, none⟩ = some (.slice none 0 0) ∧ W.cell? ⟨w.heap.size, 6, none⟩ = some (.slice none 0 0) ∧ W.cell? ⟨w.heap.size, 7, none⟩ = some (.slice ba 1 bc)) (by as_aux_lemma => kernel_rfl) ?_
  rw [← HWD.out]
  (refine wpAnyT_take (i := 0) (oi := ?_) (v := ?_) ?_ (by as_aux_lemma => kernel_rfl) (by as_aux_lemma => kernel_rfl) (by as_aux_lemma => kernel_rfl) (by as_aux_lemma => kernel_rfl) ?_ (Or.inl ⟨?_, ?_⟩) HS.out ?_; rotate_left 2; (focus (simp only [List.getElem?_toArray, List.getElem?_cons_succ, List.getElem?_cons_zero] <;> rfl)); (focus exact (fun _ _ _ h => h)); (focus rfl); (focus (intro w hSw; (try dsimp only at hSw); go_simp; try (with_reducible rfl))))
  (try simp only [Act.put, List.setIfInBounds_toArray, List.set_cons_zero, List.set_cons_succ])
  (refine wpAnyT_take (i := 1) (oi := ?_) (v := ?_) ?_ (by as_aux_lemma => kernel_rfl) (by as_aux_lemma => kernel_rfl) (by as_aux_lemma => kernel_rfl) (by as_aux_lemma => kernel_rfl) ?_ (Or.inl ⟨?_, ?_⟩) HS.out ?_; rotate_left 2; (focus (simp only [List.getElem?_toArray, List.getElem?_cons_succ, List.getElem?_cons_zero] <;> rfl)); (focus exact (fun _ _ _ h => h)); (focus rfl); (focus (intro w hSw; (try dsimp only at hSw); go_simp; try (with_reducible rfl))))
  (try simp only [Act.put, List.setIfInBounds_toArray, List.set_cons_zero, List.set_cons_succ])
  (refine wpAnyT_take (i := 2) (oi := ?_) (v := ?_) ?_ (by as_aux_lemma => kernel_rfl) (by as_aux_lemma => kernel_rfl) (by as_aux_lemma => kernel_rfl) (by as_aux_lemma => kernel_rfl) ?_ (Or.inl ⟨?_, ?_⟩) HS.out ?_; rotate_left 2; (focus (simp only [List.getElem?_toArray, List.getElem?_cons_succ, List.getElem?_cons_zero] <;> rfl)); (focus exact (fun _ _ _ h => h)); (focus rfl); (focus (intro w hSw; (try dsimp only at hSw); go_simp; try (with_reducible rfl))))
  (try simp only [Act.put, List.setIfInBounds_toArray, List.set_cons_zero, List.set_cons_succ])
  (refine wpAnyT_take (i := 3) (oi := ?_) (v := ?_) ?_ (by as_aux_lemma => kernel_rfl) (by as_aux_lemma => kernel_rfl) (by as_aux_lemma => kernel_rfl) (by as_aux_lemma => kernel_rfl) ?_ (Or.inl ⟨?_, ?_⟩) HS.out ?_; rotate_left 2; (focus (simp only [List.getElem?_toArray, List.getElem?_cons_succ, List.getElem?_cons_zero] <;> rfl)); (focus exact (fun _ _ _ h => h)); (focus rfl); (focus (intro w hSw; (try dsimp only at hSw); go_simp; try (with_reducible rfl))))
  (try simp only [Act.put, List.setIfInBounds_toArray, List.set_cons_zero, List.set_cons_succ])
  (refine wpAnyT_take (i := 5) (oi := ?_) (v := ?_) ?_ (by as_aux_lemma => kernel_rfl) (by as_aux_lemma => kernel_rfl) (by as_aux_lemma => kernel_rfl) (by as_aux_lemma => kernel_rfl) ?_ (Or.inl ⟨?_, ?_⟩) HS.out ?_; rotate_left 2; (focus (simp only [List.getElem?_toArray, List.getElem?_cons_succ, List.getElem?_cons_zero] <;> rfl)); (focus exact (fun _ _ _ h => h)); (focus rfl); (focus (intro w hSw; (try dsimp only at hSw); go_simp; try (with_reducible rfl))))
  (try simp only [Act.put, List.setIfInBounds_toArray, List.set_cons_zero, List.set_cons_succ])
  (refine wpAnyT_take (i := 6) (oi := ?_) (v := ?_) ?_ (by as_aux_lemma => kernel_rfl) (by as_aux_lemma => kernel_rfl) (by as_aux_lemma => kernel_rfl) (by as_aux_lemma => kernel_rfl) ?_ (Or.inl ⟨?_, ?_⟩) HS.out ?_; rotate_left 2; (focus (simp only [List.getElem?_toArray, List.getElem?_cons_succ, List.getElem?_cons_zero] <;> rfl)); (focus exact (fun _ _ _ h => h)); (focus rfl); (focus (intro w hSw; (try dsimp only at hSw); go_simp; try (with_reducible rfl))))
  (try simp only [Act.put, List.setIfInBounds_toArray, List.set_cons_zero, List.set_cons_succ])
  (refine wpAnyT_take (i := 8) (oi := ?_) (v := ?_) ?_ (by as_aux_lemma => kernel_rfl) (by as_aux_lemma => kernel_rfl) (by as_aux_lemma => kernel_rfl) (by as_aux_lemma => kernel_rfl) ?_ (Or.inl ⟨?_, ?_⟩) HS.out ?_; rotate_left 2; (focus (simp only [List.getElem?_toArray, List.getElem?_cons_succ, List.getElem?_cons_zero] <;> rfl)); (focus exact (fun _ _ _ h => h)); (focus rfl); (focus (intro w hSw; (try dsimp only at hSw); go_simp; try (with_reducible rfl))))
  (try simp only [Act.put, List.setIfInBounds_toArray, List.set_cons_zero, List.set_cons_succ])
  (refine wpAnyT_take (i := 9) (oi := ?_) (v := ?_) ?_ (by as_aux_lemma => kernel_rfl) (by as_aux_lemma => kernel_rfl) (by as_aux_lemma => kernel_rfl) (by as_aux_lemma => kernel_rfl) ?_ (Or.inl ⟨?_, ?_⟩) HS.out ?_; rotate_left 2; (focus (simp only [List.getElem?_toArray, List.getElem?_cons_succ, List.getElem?_cons_zero] <;> rfl)); (focus exact (fun _ _ _ h => h)); (focus rfl); (focus (intro w hSw; (try dsimp only at hSw); go_simp; try (with_reducible rfl))))
  (try simp only [Act.put, List.setIfInBounds_toArray, List.set_cons_zero, List.set_cons_succ])
  (refine wpAnyT_take (i := 11) (oi := ?_) (v := ?_) ?_ (by as_aux_lemma => kernel_rfl) (by as_aux_lemma => kernel_rfl) (by as_aux_lemma => kernel_rfl) (by as_aux_lemma => kernel_rfl) ?_ (Or.inl ⟨?_, ?_⟩) HS.out ?_; rotate_left 2; (focus (simp only [List.getElem?_toArray, List.getElem?_cons_succ, List.getElem?_cons_zero] <;> rfl)); (focus exact (fun _ _ _ h => h)); (focus rfl); (focus (intro w hSw; (try dsimp only at hSw); go_simp; try (with_reducible rfl))))
  (try simp only [Act.put, List.setIfInBounds_toArray, List.set_cons_zero, List.set_cons_succ])
  (refine wpAnyT_take (i := 12) (oi := ?_) (v := ?_) ?_ (by as_aux_lemma => kernel_rfl) (by as_aux_lemma => kernel_rfl) (by as_aux_lemma => kernel_rfl) (by as_aux_lemma => kernel_rfl) ?_ (Or.inl ⟨?_, ?_⟩) HS.out ?_; rotate_left 2; (focus (simp only [List.getElem?_toArray, List.getElem?_cons_succ, List.getElem?_cons_zero] <;> rfl)); (focus exact (fun _ _ _ h => h)); (focus rfl); (focus (intro w hSw; (try dsimp only at hSw); go_simp; try (with_reducible rfl))))
  (try simp only [Act.put, List.setIfInBounds_toArray, List.set_cons_zero, List.set_cons_succ])
  (refine wpAnyT_take (i := 14) (oi := ?_) (v := ?_) ?_ (by as_aux_lemma => kernel_rfl) (by as_aux_lemma => kernel_rfl) (by as_aux_lemma => kernel_rfl) (by as_aux_lemma => kernel_rfl) ?_ (Or.inl ⟨?_, ?_⟩) HS.out ?_; rotate_left 2; (focus (simp only [List.getElem?_toArray, List.getElem?_cons_succ, List.getElem?_cons_zero] <;> rfl)); (focus exact (fun _ _ _ h => h)); (focus rfl); (focus (intro w hSw; (try dsimp only at hSw); go_simp; try (with_reducible rfl))))
  (try simp only [Act.put, List.setIfInBounds_toArray, List.set_cons_zero, List.set_cons_succ])
  (refine wpAnyT_take (i := 15) (oi := ?_) (v := ?_) ?_ (by as_aux_lemma => kernel_rfl) (by as_aux_lemma => kernel_rfl) (by as_aux_lemma => kernel_rfl) (by as_aux_lemma => kernel_rfl) ?_ (Or.inl ⟨?_, ?_⟩) HS.out ?_; rotate_left 2; (focus (simp only [List.getElem?_toArray, List.getElem?_cons_succ, List.getElem?_cons_zero] <;> rfl)); (focus exact (fun _ _ _ h => h)); (focus rfl); (focus (intro w hSw; (try dsimp only at hSw); go_simp; try (with_reducible rfl))))
  (try simp only [Act.put, List.setIfInBounds_toArray, List.set_cons_zero, List.set_cons_succ])
  (refine wpAnyT_take (i := 17) (oi := ?_) (v := ?_) ?_ (by as_aux_lemma => kernel_rfl) (by as_aux_lemma => kernel_rfl) (by as_aux_lemma => kernel_rfl) (by as_aux_lemma => kernel_rfl) ?_ (Or.inl ⟨?_, ?_⟩) HS.out ?_; rotate_left 2; (focus (simp only [List.getElem?_toArray, List.getElem?_cons_succ, List.getElem?_cons_zero] <;> rfl)); (focus exact (fun _ _ _ h => h)); (focus rfl); (focus (intro w hSw; (try dsimp only at hSw); go_simp; try (with_reducible rfl))))
  (try simp only [Act.put, List.setIfInBounds_toArray, List.set_cons_zero, List.set_cons_succ])
  (refine wpAnyT_take (i := 18) (oi := ?_) (v := ?_) ?_ (by as_aux_lemma => kernel_rfl) (by as_aux_lemma => kernel_rfl) (by as_aux_lemma => kernel_rfl) (by as_aux_lemma => kernel_rfl) ?_ (Or.inl ⟨?_, ?_⟩) HS.out ?_; rotate_left 2; (focus (simp only [List.getElem?_toArray, List.getElem?_cons_succ, List.getElem?_cons_zero] <;> rfl)); (focus exact (fun _ _ _ h => h)); (focus rfl); (focus (intro w hSw; (try dsimp only at hSw); go_simp; try (with_reducible rfl))))
  (try simp only [Act.put, List.setIfInBounds_toArray, List.set_cons_zero, List.set_cons_succ])
  (refine wpAnyT_take (i := 20) (oi := ?_) (v := ?_) ?_ (by as_aux_lemma => kernel_rfl) (by as_aux_lemma => kernel_rfl) (by as_aux_lemma => kernel_rfl) (by as_aux_lemma => kernel_rfl) ?_ (Or.inl ⟨?_, ?_⟩) HS.out ?_; rotate_left 2; (focus (simp only [List.getElem?_toArray, List.getElem?_cons_succ, List.getElem?_cons_zero] <;> rfl)); (focus exact (fun _ _ _ h => h)); (focus rfl); (focus (intro w hSw; (try dsimp only at hSw); go_simp; try (with_reducible rfl))))
  (try simp only [Act.put, List.setIfInBounds_toArray, List.set_cons_zero, List.set_cons_succ])
  (refine wpAnyT_take (i := 21) (oi := ?_) (v := ?_) ?_ (by as_aux_lemma => kernel_rfl) (by as_aux_lemma => kernel_rfl) (by as_aux_lemma => kernel_rfl) (by as_aux_lemma => kernel_rfl) ?_ (Or.inl ⟨?_, ?_⟩) HS.out ?_; rotate_left 2; (focus (simp only [List.getElem?_toArray, List.getElem?_cons_succ, List.getElem?_cons_zero] <;> rfl)); (focus exact (fun _ _ _ h => h)); (focus rfl); (focus (intro w hSw; (try dsimp only at hSw); go_simp; try (with_reducible rfl))))
  (try simp only [Act.put, List.setIfInBounds_toArray, List.set_cons_zero, List.set_cons_succ])
  (refine wpAnyT_one (i := 4) (oi := ?_) ?_ (by as_aux_lemma => kernel_rfl) (fun K hK => ?_); rotate_left; (focus (simp only [List.getElem?_toArray, List.getElem?_cons_succ, List.getElem?_cons_zero] <;> rfl)))
  go_simp
  refine (L0 _).mono ?_
  rintro en wq ⟨rfl, rfl⟩
  refine hK.out _ _ HS.out ?_
  clear hK K
  (try simp only [Act.put, List.setIfInBounds_toArray, List.set_cons_zero, List.set_cons_succ])
  (refine wpAnyT_one (i := 7) (oi := ?_) ?_ (by as_aux_lemma => kernel_rfl) (fun K hK => ?_); rotate_left; (focus (simp only [List.getElem?_toArray, List.getElem?_cons_succ, List.getElem?_cons_zero] <;> rfl)))
  go_simp
  refine (L1 _ _).mono ?_
  rintro en wq ⟨rfl, rfl⟩
  refine hK.out _ _ HS.out ?_
  clear hK K
  (try simp only [Act.put, List.setIfInBounds_toArray, List.set_cons_zero, List.set_cons_succ])
  (refine wpAnyT_one (i := 10) (oi := ?_) ?_ (by as_aux_lemma => kernel_rfl) (fun K hK => ?_); rotate_left; (focus (simp only [List.getElem?_toArray, List.getElem?_cons_succ, List.getElem?_cons_zero] <;> rfl)))
  go_simp
  refine (L2 _ _).mono ?_
  rintro en wq ⟨rfl, rfl⟩
  refine hK.out _ _ HS.out ?_
  clear hK K
  (try simp only [Act.put, List.setIfInBounds_toArray, List.set_cons_zero, List.set_cons_succ])
  (refine wpAnyT_one (i := 13) (oi := ?_) ?_ (by as_aux_lemma => kernel_rfl) (fun K hK => ?_); rotate_left; (focus (simp only [List.getElem?_toArray, List.getElem?_cons_succ, List.getElem?_cons_zero] <;> rfl)))
  go_simp
  refine (L3 _ _).mono ?_
  rintro en wq ⟨rfl, rfl⟩
  refine hK.out _ _ HS.out ?_
  clear hK K
  (try simp only [Act.put, List.setIfInBounds_toArray, List.set_cons_zero, List.set_cons_succ])
  (refine wpAnyT_one (i := 16) (oi := ?_) ?_ (by as_aux_lemma => kernel_rfl) (fun K hK => ?_); rotate_left; (focus (simp only [List.getElem?_toArray, List.getElem?_cons_succ, List.getElem?_cons_zero] <;> rfl)))
  go_simp
  refine (L2 _ _).mono ?_
  rintro en wq ⟨rfl, rfl⟩
  refine hK.out _ _ HS.out ?_
  clear hK K
  (try simp only [Act.put, List.setIfInBounds_toArray, List.set_cons_zero, List.set_cons_succ])
  (refine wpAnyT_one (i := 19) (oi := ?_) ?_ (by as_aux_lemma => kernel_rfl) (fun K hK => ?_); rotate_left; (focus (simp only [List.getElem?_toArray, List.getElem?_cons_succ, List.getElem?_cons_zero] <;> rfl)))
  go_simp
  refine (L4 _ _).mono ?_
  rintro en wq ⟨rfl, rfl⟩
  refine hK.out _ _ HS.out ?_
  clear hK K
  (try simp only [Act.put, List.setIfInBounds_toArray, List.set_cons_zero, List.set_cons_succ])
  (refine wpAnyT_one (i := 22) (oi := ?_) ?_ (by as_aux_lemma => kernel_rfl) (fun K hK => ?_); rotate_left; (focus (simp only [List.getElem?_toArray, List.getElem?_cons_succ, List.getElem?_cons_zero] <;> rfl)))
  go_simp
  refine HBD.out.mono ?_
  rintro en w5 ⟨⟨v, rfl, hv⟩, hb5⟩
  have HS := Lib.hid (HKS.out w5 hb5)
  have HV := Lib.hid hv
  have HB5 := Lib.hid hb5
  obtain ⟨b', o', cap, xv', rfl, _⟩ := hv
  clear hb5
  refine hK.out _ _ HS.out ?_
  clear hK K
  (try simp only [Act.put, List.setIfInBounds_toArray, List.set_cons_zero, List.set_cons_succ])
  (refine wpAnyT_take (i := 23) (oi := ?_) (v := ?_) ?_ (by as_aux_lemma => kernel_rfl) (by as_aux_lemma => kernel_rfl) (by as_aux_lemma => kernel_rfl) (by as_aux_lemma => kernel_rfl) ?_ (Or.inl ⟨?_, ?_⟩) HS.out ?_; rotate_left 2; (focus (simp only [List.getElem?_toArray, List.getElem?_cons_succ, List.getElem?_cons_zero] <;> rfl)); (focus exact (fun _ _ _ h => h)); (focus rfl); (focus (intro w hSw; (try dsimp only at hSw); go_simp; try (with_reducible rfl))))
  (try simp only [Act.put, List.setIfInBounds_toArray, List.set_cons_zero, List.set_cons_succ])
  (refine wpAnyT_late (i := 24) (oi := ?_) ?_ (by as_aux_lemma => kernel_rfl) (by as_aux_lemma => kernel_rfl) (fun K hK => ?_); rotate_left; (focus (simp only [List.getElem?_toArray, List.getElem?_cons_succ, List.getElem?_cons_zero] <;> rfl)))
  have hy := (show w5.heap[w.heap.size + 1]? = some (.cells #[.string { data := #[] }, .slice none 0 0, .slice none 0 0, .slice none 0 0, .slice none 0 0, .slice none 0 0, .slice none 0 0, .slice none 0 0] 30 (0, 0)) from by
    have h := HDB.out.trans (HB5.out.mono HDB.out.size)
    rw [h.block _ (Array.getElem?_eq_some_iff.1 HY.out).1]; exact HY.out)
  have g0 := rowC hy 0 _
  have k0 := frozen_of_row w5 (w.heap.size + 1) 0 _ _ hy
  have g1 := rowC hy 1 _
  have k1 := frozen_of_row w5 (w.heap.size + 1) 1 _ _ hy
  have g2 := rowC hy 2 _
  have k2 := frozen_of_row w5 (w.heap.size + 1) 2 _ _ hy
  have g3 := rowC hy 3 _
  have k3 := frozen_of_row w5 (w.heap.size + 1) 3 _ _ hy
  have g4 := rowC hy 4 _
  have k4 := frozen_of_row w5 (w.heap.size + 1) 4 _ _ hy
  have g5 := rowC hy 5 _
  have k5 := frozen_of_row w5 (w.heap.size + 1) 5 _ _ hy
  have g6 := rowC hy 6 _
  have k6 := frozen_of_row w5 (w.heap.size + 1) 6 _ _ hy
  have g7 := rowC hy 7 _
  have k7 := frozen_of_row w5 (w.heap.size + 1) 7 _ _ hy
  have HS8 := Lib.hid (show ∀ i, i < 8 → (w5.cell? ⟨w.heap.size + 1, i, none⟩).isSome = true from fun i hi => some8 hy i hi)
  have HNW := Lib.hid (show w.heap.size + 1 < wd.heap.size from Nat.lt_of_lt_of_le (Array.getElem?_eq_some_iff.1 HY.out).1 HDB.out.size)
  clear hy
  go_simp
  refine hK.out _ _ ?_
  clear hK K
  refine wpAnyT_done (by as_aux_lemma => kernel_rfl) ?_ _
  go_wp2_with fail
  refine bodyPost_ret (v := .agg #[.string { data := #[77] }, .slice none 0 0, .slice none 0 0, .slice none 0 0, .slice none 0 0, .slice none 0 0, .slice none 0 0, .slice (some ⟨b', o', none⟩) 1 cap]) (by simp [results, Try.results11, go_sem, HS8.out 0, HS8.out 1, HS8.out 2, HS8.out 3, HS8.out 4, HS8.out 5, HS8.out 6, HS8.out 7]; try rfl) rfl ⟨⟨b', o', cap, rfl, ?_⟩, ?_⟩
  · refine BodyB.imp (F := New wd.heap.size) (w := w5) (fun b hb => Nat.le_trans (by have := HNW.out; omega) hb) ?_ HV.out
    have hn := HNW.out
    repeat (refine Keeps.trans ?_ (Keeps.set _ _ _ (fun h => by have h : wd.heap.size ≤ _ := h; simp at h; omega)))
    exact fun b o u _ h => h
  · repeat (refine Below.setCell ?_ (by simp) _)
    exact HB0.out.trans (HB5.out.mono HB0.out.size)
end Go.Proofs.Ytipcnkgojonmjaa
