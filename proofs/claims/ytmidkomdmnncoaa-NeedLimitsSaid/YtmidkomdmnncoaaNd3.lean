/- Need: how many registers an expression needs. -/
import Derived.Test.YtmidkomdmnncoaaNd2
namespace Go.Proofs.Ytmidkomdmnncoaa
open Go.RowKit Go.Waf
set_option maxRecDepth 100000
set_option linter.unusedVariables false
set_option linter.unusedSimpArgs false

def Ex.regs : Ex → Nat
  | .none => 0
  | .mk _ _ _ _ k x => max 1 (maxN (fun j => (x j).regs + j) k)
theorem max_valJ (k : IntKind) (a b j : Nat) : Value.int k (if (a : Int) < (b : Int) + (j : Int) then (b : Int) + (j : Int) else (a : Int)) = Value.int k ((max a (b + j) : Nat) : Int) := by
  split
  · rw [Nat.max_eq_right (by omega)]; exact congrArg (Value.int k) (by omega)
  · rw [Nat.max_eq_left (by omega)]
def RegP (e : Ex) : Prop := ∀ (w : World) (tv xv : Value), e.regs ≤ 1000000 → ExOk w e tv xv → Calls Try.prog 5 #[exV e tv xv] w fun en w' => en = .returned (.int .i64 (e.regs : Int)) ∧ Below w.heap.size w w'
set_option maxHeartbeats 3200000 in
theorem regs_prog : ∀ e, RegP e := by
  intro e
  induction e with
  | none => intro w tv xv _ h; exact h.elim
  | mk op t i s k x ih =>
  intro w tv xv hd hok
  obtain ⟨hty, a, c, rfl, h1, h2, hx⟩ := hok
  obtain ⟨ta, tc, rfl, _, _⟩ := hty.shape
  show Calls _ _ #[.agg #[.int .i64 op, .int .i64 t.form, .int .i64 t.num, .string t.name, .slice ta t.k tc, .int .i32 i, .string s, .slice a k c]] w _
  obtain ⟨M, hM⟩ : ∃ M : Nat → Nat, M = fun j => (x j).regs + j := ⟨_, rfl⟩
  have hd2 : max 1 (maxN M k) ≤ 1000000 := by rw [hM]; exact hd
  have HR := Lib.hid (show (Ex.mk op t i s k x).regs = max 1 (maxN M k) from by rw [hM]; rfl)
  have HI := Lib.hid (show ∀ j, j < k → ∀ (W : World) (tu xu : Value), ExOk W (x j) tu xu → Calls Try.prog 5 #[exV (x j) tu xu] W fun en w' => en = .returned (.int .i64 ((x j).regs : Int)) ∧ Below W.heap.size W w' from fun j hj W tu xu hok => by
    have := maxN_le (f := M) hj
    exact ih j W tu xu (by have e : M j = (x j).regs + j := by rw [hM]
                           omega) hok)
  have HX := Lib.hid (show ExsAt w a k x from hx)
  have HMJ := Lib.hid (fun j => show M j = (x j).regs + j from by rw [hM])
  have HLE := Lib.hid (fun j (hj : j < k) => maxN_le (f := M) hj)
  have HMO := Lib.hid (fun j (hj : j ≤ k) => maxN_mono (f := M) hj)
  rw [HR.out]
  clear hty hx ih hM hd
  go_enter Try.func5, Try.ntmps5
  go_wp2_with fail
  go_loopw [3, 9] (fun n z wr => ∃ j : Nat, j ≤ k ∧ z = .int .i64 (j : Int) ∧ n = .int .i64 ((max 1 (maxN M j) : Nat) : Int) ∧ Below w.heap.size w wr) (fun _ z _ => k - (intOf z).toNat)
  case atStart => exact ⟨0, by omega, rfl, rfl, (Below.refl _ _).alloc (Nat.le_refl _) _⟩
  case round =>
    obtain ⟨j, hj, rfl, rfl, hb⟩ := hrel
    obtain ⟨wo, rfl⟩ : ∃ wo : World, wo = wr := ⟨_, rfl⟩
    obtain ⟨V, hV⟩ : ∃ V, V = max 1 (maxN M j) := ⟨_, rfl⟩
    have HV := Lib.hid hV
    rw [← hV]
    have hv1 : V ≤ 1000000 := by have := HMO.out j hj; omega
    by_cases hlt : j < k
    · obtain ⟨b, o, rfl, hc⟩ := HX.out (by omega)
      obtain ⟨tu, xu, hok, hcc⟩ := hc j hlt
      obtain ⟨d0, d1, d2, d3, d4, d5, d6, d7⟩ := hcc.below hb (Nat.le_refl _)
      obtain ⟨ua, uc, rfl, _, _⟩ := hok.ty.shape
      obtain ⟨va, vc, rfl, _, _, _⟩ := hok.shape
      have HC := Lib.hid (fun W (hw : Below w.heap.size w W) => HI.out j hlt W _ _ (ExOk.below hw (Nat.le_refl _) _ _ _ hok))
      have hle := HLE.out j hlt
      have hmj := HMJ.out j
      rw [hmj] at hle
      obtain ⟨E, hE⟩ : ∃ E, E = x j := ⟨_, rfl⟩
      rw [← hE] at HC d0 d1 d2 d3 d4 d5 d6 d7 hle hmj
      obtain ⟨RG, hRG⟩ : ∃ r, r = E.regs := ⟨_, rfl⟩
      rw [← hRG] at HC hle hmj
      unfold exV at HC
      have HB := Lib.hid hb
      have hsz := hb.size
      have HMS := Lib.hid (show max 1 (maxN M (j + 1)) = max V (RG + j) from by rw [HV.out, ← hmj]; show max 1 (max (maxN M j) (M j)) = _; omega)
      have hrg : RG ≤ 1000000 := by omega
      have hjk : (j : Int) ≤ 1000000 := by omega
      clear hc hok hcc hb hE hRG hmj hV
      go_wp2_with fail
      refine (HC.out _ (HB.out.alloc hsz _)).mono ?_
      rintro en w2 ⟨rfl, hb2⟩
      have HB2 := Lib.hid ((HB.out.alloc hsz _).trans (hb2.mono (by simp; omega)))
      clear hb2
      go_wp2_with fail
      go_roundw
      case rel => exact ⟨j + 1, by omega, by go_num, by rw [HMS.out]; exact max_valJ _ _ _ _, HB2.out⟩
      case measure => simp [intOf]; omega
    · obtain rfl : j = k := by omega
      have HB := Lib.hid hb
      clear hb hV
      go_wp2_with fail
      go_ret
      exact ⟨congrArg (fun z : Nat => Ending.returned (.int .i64 (z : Int))) HV.out, HB.out⟩
end Go.Proofs.Ytmidkomdmnncoaa
