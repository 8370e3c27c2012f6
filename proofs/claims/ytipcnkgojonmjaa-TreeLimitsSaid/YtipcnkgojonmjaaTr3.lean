/- Trees: how deep an expression is. -/
import Derived.Test.YtipcnkgojonmjaaTr2
namespace Go.Proofs.Ytipcnkgojonmjaa
open Go.RowKit Go.Waf
set_option maxRecDepth 100000
set_option linter.unusedVariables false
set_option linter.unusedSimpArgs false

theorem rowC {w : World} {b : Nat} {T : TypeId} {cs : Array Value} (h : w.heap[b]? = some (.cells cs T (0, 0))) (i : Nat) (u : Value) (hu : cs[i]? = some u := by rfl) : w.cell? ⟨b, i, none⟩ = some u := (cell_of_row w b i _ _ _ h).trans hu
theorem max_val (k : IntKind) (a b : Nat) : Value.int k (if a < b then (b : Int) else (a : Int)) = Value.int k ((max a b : Nat) : Int) := by
  split
  · rw [Nat.max_eq_right (by omega)]
  · rw [Nat.max_eq_left (by omega)]
/-- How deep an expression is. -/
def Ex.dep : Ex → Nat
  | .none => 0
  | .mk _ _ _ _ k x => maxN (fun j => (x j).dep) k + 1
def DepP (e : Ex) : Prop := ∀ (w : World) (tv xv : Value), e.dep ≤ 1000000 → ExOk w e tv xv → Calls Try.prog 8 #[exV e tv xv] w fun en w' => en = .returned (.int .i64 (e.dep : Int)) ∧ Below w.heap.size w w'
set_option maxHeartbeats 3200000 in
theorem depth_prog : ∀ e, DepP e := by
  intro e
  induction e with
  | none => intro w tv xv _ h; exact h.elim
  | mk op t i s k x ih =>
  intro w tv xv hd hok
  obtain ⟨hty, a, c, rfl, h1, h2, hx⟩ := hok
  obtain ⟨ta, tc, rfl, _, _⟩ := hty.shape
  show Calls _ _ #[.agg #[.int .i64 op, .int .i64 t.form, .int .i64 t.num, .string t.name, .slice ta t.k tc, .int .i32 i, .string s, .slice a k c]] w _
  obtain ⟨M, hM⟩ : ∃ M : Nat → Nat, M = fun j => (x j).dep := ⟨_, rfl⟩
  have hd2 : maxN M k + 1 ≤ 1000000 := by rw [hM]; exact hd
  have HR := Lib.hid (show (Ex.mk op t i s k x).dep = maxN M k + 1 from by rw [hM]; rfl)
  have HI := Lib.hid (show ∀ j, j < k → ∀ (W : World) (tu xu : Value), ExOk W (x j) tu xu → Calls Try.prog 8 #[exV (x j) tu xu] W fun en w' => en = .returned (.int .i64 (M j : Int)) ∧ Below W.heap.size W w' from fun j hj W tu xu hok => by
    have := maxN_le (f := M) hj
    rw [hM]
    exact ih j W tu xu (by have e : M j = (x j).dep := by rw [hM]
                           omega) hok)
  have HX := Lib.hid (show ExsAt w a k x from hx)
  have HLE := Lib.hid (fun j (hj : j < k) => maxN_le (f := M) hj)
  have HMO := Lib.hid (fun j (hj : j ≤ k) => maxN_mono (f := M) hj)
  rw [HR.out]
  clear hty hx ih hM hd
  go_enter Try.func8, Try.ntmps8
  go_wp2_with fail
  go_loopw [3, 9] (fun n z wr => ∃ j : Nat, j ≤ k ∧ z = .int .i64 (j : Int) ∧ n = .int .i64 (maxN M j : Int) ∧ Below w.heap.size w wr) (fun _ z _ => k - (intOf z).toNat)
  case atStart => exact ⟨0, by omega, rfl, rfl, (Below.refl _ _).alloc (Nat.le_refl _) _⟩
  case round =>
    obtain ⟨j, hj, rfl, rfl, hb⟩ := hrel
    obtain ⟨wo, rfl⟩ : ∃ wo : World, wo = wr := ⟨_, rfl⟩
    by_cases hlt : j < k
    · obtain ⟨b, o, rfl, hc⟩ := HX.out (by omega)
      obtain ⟨tu, xu, hok, hcc⟩ := hc j hlt
      obtain ⟨d0, d1, d2, d3, d4, d5, d6, d7⟩ := hcc.below hb (Nat.le_refl _)
      obtain ⟨ua, uc, rfl, _, _⟩ := hok.ty.shape
      obtain ⟨va, vc, rfl, _, _, _⟩ := hok.shape
      have HC := Lib.hid (fun W (hw : Below w.heap.size w W) => HI.out j hlt W _ _ (ExOk.below hw (Nat.le_refl _) _ _ _ hok))
      obtain ⟨E, hE⟩ : ∃ E, E = x j := ⟨_, rfl⟩
      rw [← hE] at HC d0 d1 d2 d3 d4 d5 d6 d7
      unfold exV at HC
      have HB := Lib.hid hb
      have hle := HLE.out j hlt
      have hsz := hb.size
      have hmo := HMO.out j hj
      have HMS := Lib.hid (show maxN M (j + 1) = max (maxN M j) (M j) from rfl)
      clear hc hok hcc hb hE
      go_wp2_with fail
      refine (HC.out _ (HB.out.alloc hsz _)).mono ?_
      rintro en w2 ⟨rfl, hb2⟩
      have HB2 := Lib.hid ((HB.out.alloc hsz _).trans (hb2.mono (by simp; omega)))
      clear hb2
      go_wp2_with fail
      go_roundw
      case rel => exact ⟨j + 1, by omega, by go_num, by rw [HMS.out]; exact max_val _ _ _, HB2.out⟩
      case measure => simp [intOf]; omega
    · obtain rfl : j = k := by omega
      have HB := Lib.hid hb
      clear hb
      go_wp2_with fail
      go_ret
      exact ⟨rfl, HB.out⟩
def DepR (e : Ex) : Prop := ∀ (w : World) (tv xv : Value), e.dep ≤ 1000000 → ExOk w e tv xv → Calls Try.prog 76 #[exV e tv xv] w fun en w' => en = .returned (.int .i64 (e.dep : Int)) ∧ Below w.heap.size w w'
set_option maxHeartbeats 3200000 in
theorem depth_ref : ∀ e, DepR e := by
  intro e
  induction e with
  | none => intro w tv xv _ h; exact h.elim
  | mk op t i s k x ih =>
  intro w tv xv hd hok
  obtain ⟨hty, a, c, rfl, h1, h2, hx⟩ := hok
  obtain ⟨ta, tc, rfl, _, _⟩ := hty.shape
  show Calls _ _ #[.agg #[.int .i64 op, .int .i64 t.form, .int .i64 t.num, .string t.name, .slice ta t.k tc, .int .i32 i, .string s, .slice a k c]] w _
  obtain ⟨M, hM⟩ : ∃ M : Nat → Nat, M = fun j => (x j).dep := ⟨_, rfl⟩
  have hd2 : maxN M k + 1 ≤ 1000000 := by rw [hM]; exact hd
  have HR := Lib.hid (show (Ex.mk op t i s k x).dep = maxN M k + 1 from by rw [hM]; rfl)
  have HI := Lib.hid (show ∀ j, j < k → ∀ (W : World) (tu xu : Value), ExOk W (x j) tu xu → Calls Try.prog 76 #[exV (x j) tu xu] W fun en w' => en = .returned (.int .i64 (M j : Int)) ∧ Below W.heap.size W w' from fun j hj W tu xu hok => by
    have := maxN_le (f := M) hj
    rw [hM]
    exact ih j W tu xu (by have e : M j = (x j).dep := by rw [hM]
                           omega) hok)
  have HX := Lib.hid (show ExsAt w a k x from hx)
  have HLE := Lib.hid (fun j (hj : j < k) => maxN_le (f := M) hj)
  have HMO := Lib.hid (fun j (hj : j ≤ k) => maxN_mono (f := M) hj)
  rw [HR.out]
  clear hty hx ih hM hd
  go_enter Try.func76, Try.ntmps76
  go_wp2_with fail
  obtain ⟨w1, hw1⟩ : ∃ w1 : World, w1 = w.alloc (.cells #[.int .i64 op, .int .i64 t.form, .int .i64 t.num, .string t.name, .slice ta t.k tc, .int .i32 i, .string s, .slice a k c] 36) := ⟨_, rfl⟩
  have hb01 : Below w.heap.size w w1 := by rw [hw1]; exact (Below.refl _ _).alloc (Nat.le_refl _) _
  have HE7 := Lib.hid (rowC (show w1.heap[w.heap.size]? = some (.cells #[.int .i64 op, .int .i64 t.form, .int .i64 t.num, .string t.name, .slice ta t.k tc, .int .i32 i, .string s, .slice a k c] 36 (0, 0)) from by rw [hw1]; exact heap_alloc_new w _) 7 _)
  have HB01 := Lib.hid hb01
  rw [← hw1]
  clear hw1 hb01
  go_loopw [3, 4] (fun n z wr => ∃ j : Nat, j ≤ k ∧ z = .int .i64 (j : Int) ∧ n = .int .i64 (maxN M j : Int) ∧ Below w1.heap.size w1 wr) (fun _ z _ => k - (intOf z).toNat)
  case atStart => exact ⟨0, by omega, rfl, rfl, Below.refl _ _⟩
  case round =>
    obtain ⟨j, hj, rfl, rfl, hb⟩ := hrel
    obtain ⟨wo, rfl⟩ : ∃ wo : World, wo = wr := ⟨_, rfl⟩
    have c7 : wo.cell? ⟨w.heap.size, 7, none⟩ = some (.slice a k c) := cell_below hb (Nat.le_refl _) HE7.out
    have hb0 : Below w.heap.size w wo := HB01.out.trans (hb.mono HB01.out.size)
    by_cases hlt : j < k
    · obtain ⟨b, o, rfl, hc⟩ := HX.out (by omega)
      obtain ⟨tu, xu, hok, hcc⟩ := hc j hlt
      obtain ⟨d0, d1, d2, d3, d4, d5, d6, d7⟩ := hcc.below hb0 (Nat.le_refl _)
      obtain ⟨ua, uc, rfl, _, _⟩ := hok.ty.shape
      obtain ⟨va, vc, rfl, _, _, _⟩ := hok.shape
      have HC := Lib.hid (HI.out j hlt wo _ _ (ExOk.below hb0 (Nat.le_refl _) _ _ _ hok))
      obtain ⟨E, hE⟩ : ∃ E, E = x j := ⟨_, rfl⟩
      rw [← hE] at HC d0 d1 d2 d3 d4 d5 d6 d7
      unfold exV at HC
      have HB := Lib.hid hb
      have hle := HLE.out j hlt
      have hmo := HMO.out j hj
      have HMS := Lib.hid (show maxN M (j + 1) = max (maxN M j) (M j) from rfl)
      clear hc hok hcc hb hb0 hE
      go_wp2_with fail
      refine HC.out.mono ?_
      rintro en w2 ⟨rfl, hb2⟩
      have HB2 := Lib.hid (HB.out.trans (hb2.mono HB.out.size))
      clear hb2
      go_wp2_with fail
      go_roundw
      case rel => exact ⟨j + 1, by omega, by go_num, by rw [HMS.out]; exact max_val _ _ _, HB2.out⟩
      case measure => simp [intOf]; omega
    · obtain rfl : j = k := by omega
      have HB := Lib.hid hb0
      clear hb hb0
      go_wp2_with fail
      go_ret
      exact ⟨rfl, HB.out⟩
end Go.Proofs.Ytipcnkgojonmjaa
