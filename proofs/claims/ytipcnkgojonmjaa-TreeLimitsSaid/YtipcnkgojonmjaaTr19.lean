/- Trees: a clone of statements of no bodies. -/
import Derived.Test.YtipcnkgojonmjaaTr18
namespace Go.Proofs.Ytipcnkgojonmjaa
open Go.RowKit Go.Waf
set_option maxRecDepth 100000
set_option linter.unusedVariables false
set_option linter.unusedSimpArgs false

set_option maxHeartbeats 3200000 in
theorem each_none_Bs (w : World) (g : Value) (a : Option Addr) (c : Nat) : Calls Try.prog 99 #[.slice a 0 c, g] w fun en w' => en = .returned (.slice none 0 0) ∧ w = w' := by
  go_enter Try.func99, Try.ntmps99
  go_wp2_with fail
  go_loop [5, 10] (fun v z => v = .slice none 0 0 ∧ z = .int .i64 0) (fun _ z => 0)
  case atStart => exact ⟨rfl, rfl⟩
  case round =>
    obtain ⟨rfl, rfl⟩ := hrel
    go_wp2_with fail
    go_ret
    exact ⟨rfl, rfl⟩
theorem eqNilI (w : World) : (binOp .eql 38 (.slice none 0 0) (.slice none 0 0)).run Try.prog w = .ok (.bool true) w := by kernel_rfl
set_option maxHeartbeats 3200000 in
theorem clone_none_I32 (w : World) : Calls Try.prog 100 #[.slice none 0 0] w fun en w' => en = .returned (.slice none 0 0) ∧ w = w' := by
  have hq := eqNilI
  go_enter Try.func100, Try.ntmps100
  go_wp2_with fail
  go_ret
  exact ⟨rfl, rfl⟩
theorem some4 {w : World} {b : Nat} {T : TypeId} {v0 v1 v2 v3 : Value} (h : w.heap[b]? = some (.cells #[v0, v1, v2, v3] T (0, 0))) (i : Nat) (hi : i < 4 := by decide) : (w.cell? ⟨b, i, none⟩).isSome = true := by
  rw [cell_of_row _ _ i _ _ _ h]
  rcases (by omega : i = 0 ∨ i = 1 ∨ i = 2 ∨ i = 3) with rfl | rfl | rfl | rfl <;> rfl
theorem ExsInB.imp {F F' : Nat → Prop} {w w' : World} (hF : ∀ b, F b → F' b) (hk : Keeps F w w') {v : Value} {k : Nat} {x : Nat → Ex} (h : ExsInB F w v k x) : ExsInB F' w' v k x := by
  obtain ⟨a, cap, rfl, h1, h2, h3⟩ := h
  refine ⟨a, cap, rfl, h1, h2, fun h0 => ?_⟩
  obtain ⟨b, o, rfl, hb, hc⟩ := h3 h0
  refine ⟨b, o, rfl, hF b hb, fun j hj => ?_⟩
  obtain ⟨tu, xu, hu, ⟨c0, c1, c2, c3, c4, c5, c6, c7⟩⟩ := hc j hj
  exact ⟨tu, xu, ExOkB.imp hF hk (x j) tu xu hu, ⟨hk _ _ _ hb c0, hk _ _ _ hb c1, hk _ _ _ hb c2, hk _ _ _ hb c3, hk _ _ _ hb c4, hk _ _ _ hb c5, hk _ _ _ hb c6, hk _ _ _ hb c7⟩⟩
theorem ExsInB.ok {F : Nat → Prop} {w : World} {v : Value} {k : Nat} {x : Nat → Ex} (h : ExsInB F w v k x) : ExsIn w v k x := by
  obtain ⟨a, cap, rfl, h1, h2, h3⟩ := h
  refine ⟨a, cap, rfl, h1, h2, fun h0 => ?_⟩
  obtain ⟨b, o, rfl, hb, hc⟩ := h3 h0
  refine ⟨b, o, rfl, fun j hj => ?_⟩
  obtain ⟨tu, xu, hu, c⟩ := hc j hj
  exact ⟨tu, xu, ExOkB.ok _ _ _ hu, c⟩
/-- What is asked of a statement's expressions. -/
def Cl (s : St) : Prop := s.nx ≤ 1000 ∧ (s.nx ≤ 1 ∨ ∀ j, j < s.nx → Leaf (s.x j)) ∧ ∀ j, j < s.nx → CloneP (s.x j)
set_option maxHeartbeats 6400000 in
theorem cloneStmt_flat (s : St) (hf : Flat s) (hcl : Cl s) (w : World) (xv bv : Value) (hok : StOk w s xv bv (.slice none 0 0)) : Calls Try.prog 88 #[stV s xv bv (.slice none 0 0)] w fun en w' => (∃ xv', en = .returned (stV s xv' (.slice none 0 0) (.slice none 0 0)) ∧ ExsInB (New w.heap.size) w' xv' s.nx s.x) ∧ Below w.heap.size w w' := by
  obtain ⟨⟨xa, xc, rfl, x1, x2, hx⟩, _, ba, bc, rfl, q1, q2, _⟩ := hok.open
  have HX := Lib.hid (fun W (hb : Below w.heap.size w W) => each_Ex W xa s.nx xc s.x x1 x2 hcl.1 (hx.below hb (Nat.le_refl _)) hcl.2.2 hcl.2.1)
  unfold stV
  rw [hf.1]
  obtain ⟨NX, hNX⟩ : ∃ k, k = s.nx := ⟨_, rfl⟩
  rw [← hNX] at HX
  rw [← hNX]
  have HB0 := each_none_Bs
  have HI0 := clone_none_I32
  obtain ⟨w1, hw1⟩ : ∃ w1 : World, w1 = (w.alloc (.cells #[.int .i64 s.op, .slice xa NX xc, .slice ba 0 bc, .slice none 0 0] 40)).alloc (.cells #[.int .i64 0, .slice none 0 0, .slice none 0 0, .slice none 0 0] 40) := ⟨_, rfl⟩
  have hb1 : Below w.heap.size w w1 := by rw [hw1]; exact ((Below.refl _ _).alloc (Nat.le_refl _) _).alloc (by simp) _
  have HZ := Lib.hid (show w1.heap[w.heap.size]? = some (.cells #[.int .i64 s.op, .slice xa NX xc, .slice ba 0 bc, .slice none 0 0] 40 (0, 0)) from by rw [hw1]; exact heap_alloc2_old w _ _)
  have HY := Lib.hid (show w1.heap[w.heap.size + 1]? = some (.cells #[.int .i64 0, .slice none 0 0, .slice none 0 0, .slice none 0 0] 40 (0, 0)) from by rw [hw1]; exact heap_alloc2_new w _ _)
  have HW1 := Lib.hid hw1
  have HB1 := Lib.hid hb1
  clear hw1 hb1 hx hcl hf hok hNX
  go_enter Try.func88, Try.ntmps88
  go_wp2_with fail
  rw [← HW1.out]
  refine (HX.out w1 HB1.out).mono ?_
  rintro en w5 ⟨⟨v, rfl, hv⟩, hb5⟩
  have hz := (show w5.heap[w.heap.size]? = some (.cells #[.int .i64 s.op, .slice xa NX xc, .slice ba 0 bc, .slice none 0 0] 40 (0, 0)) from by rw [hb5.block _ (Array.getElem?_eq_some_iff.1 HZ.out).1]; exact HZ.out)
  have hy := (show w5.heap[w.heap.size + 1]? = some (.cells #[.int .i64 0, .slice none 0 0, .slice none 0 0, .slice none 0 0] 40 (0, 0)) from by rw [hb5.block _ (Array.getElem?_eq_some_iff.1 HY.out).1]; exact HY.out)
  have HN4 := Lib.hid (show w.heap.size + 1 < w1.heap.size from (Array.getElem?_eq_some_iff.1 HY.out).1)
  have HB5 := Lib.hid (HB1.out.trans (hb5.mono HB1.out.size))
  have HV := Lib.hid hv
  obtain ⟨va, vc, rfl, v1, v2, hvx⟩ := hv
  have c0 := rowC hz 0 _
  have f0 := frozen_of_row w5 w.heap.size 0 _ _ hz
  have c1 := rowC hz 1 _
  have f1 := frozen_of_row w5 w.heap.size 1 _ _ hz
  have c2 := rowC hz 2 _
  have f2 := frozen_of_row w5 w.heap.size 2 _ _ hz
  have c3 := rowC hz 3 _
  have f3 := frozen_of_row w5 w.heap.size 3 _ _ hz
  have g0 := rowC hy 0 _
  have h0 := frozen_of_row w5 (w.heap.size + 1) 0 _ _ hy
  have g1 := rowC hy 1 _
  have h1 := frozen_of_row w5 (w.heap.size + 1) 1 _ _ hy
  have g2 := rowC hy 2 _
  have h2 := frozen_of_row w5 (w.heap.size + 1) 2 _ _ hy
  have g3 := rowC hy 3 _
  have h3 := frozen_of_row w5 (w.heap.size + 1) 3 _ _ hy
  have HS := Lib.hid (show ∀ i, i < 4 → (w5.cell? ⟨w.heap.size + 1, i, none⟩).isSome = true from fun i hi => some4 hy i hi)
  clear hz hy hb5 hvx
  go_wp2_with fail
  refine (HB0 _ _ _ _).mono ?_
  rintro en w6 ⟨rfl, rfl⟩
  go_wp2_with fail
  refine (HI0 _).mono ?_
  rintro en w6 ⟨rfl, rfl⟩
  go_wp2_with fail
  refine bodyPost_ret (v := .agg #[.int .i64 s.op, .slice va NX vc, .slice none 0 0, .slice none 0 0]) (by simp [results, Try.results88, go_sem, HS.out 0, HS.out 1, HS.out 2, HS.out 3]; try rfl) rfl ⟨⟨.slice va NX vc, rfl, ?_⟩, ?_⟩
  · refine ExsInB.imp (F := New w1.heap.size) (w := w5) (fun b hb => Nat.le_trans (by have := HN4.out; omega) hb) ?_ HV.out
    have hn := HN4.out
    repeat (refine Keeps.trans ?_ (Keeps.set _ _ _ (fun h => by have h : w1.heap.size ≤ _ := h; simp at h; omega)))
    exact fun b o u _ h => h
  · repeat (refine Below.setCell ?_ (by simp) _)
    exact HB5.out
end Go.Proofs.Ytipcnkgojonmjaa
