/- Trees: the trees of TreeLimits, and which of them are small. -/
import Derived.Test.YtipcnkgojonmjaaTr22
namespace Go.Proofs.Ytipcnkgojonmjaa
open Go.RowKit Go.Waf
set_option maxRecDepth 100000
set_option linter.unusedVariables false
set_option linter.unusedSimpArgs false

theorem any1 (p : Nat → Bool) : anyB p 1 = p 0 := by show (false || p 0) = p 0; simp
theorem any0 (p : Nat → Bool) : anyB p 0 = false := rfl
/-- An expression in so many others. -/
def nE : Nat → Ex
  | 0 => numE 0 0
  | i + 1 => .mk 8 (tyF 0) 0 ByteArray.empty 1 (fun _ => nE i)
theorem nE_dep : ∀ i, (nE i).dep = i + 1
  | 0 => rfl
  | i + 1 => by
    show max 0 ((nE i).dep) + 1 = _
    rw [nE_dep i]; omega
theorem few1 : few 1 = true := rfl
theorem few0' : few 0 = true := rfl
theorem nE_sm : ∀ i, smEx (nE i) = true
  | 0 => by kernel_rfl
  | i + 1 => by
    show (txB ByteArray.empty && smTy 8 (tyF 0) && few 1 && !anyB (fun j => !smEx (nE i)) 1) = true
    rw [any1, nE_sm i]; kernel_rfl
theorem nE_sh (i : Nat) : shB (nE i) = decide (i + 1 ≤ 64) := by unfold shB; rw [nE_dep, nE_sm, Bool.and_true]
/-- ASSERT of it. -/
def sA (i : Nat) : St := .mk 12 1 (fun _ => nE i) 0 (fun _ => 0) (fun _ _ => .none) 0 (fun _ => 0)
theorem sA_small (i : Nat) (x : Nat → Vr) : smMod 0 x 1 (fun _ => sA i) = decide (i + 1 ≤ 64) := by
  have h1 : smSt (sA i) = shB (nE i) := by
    show (few 1 && few 0 && few 0 && !anyB (fun j => !shB (nE i)) 1 && !anyB _ 0) = _
    rw [any1, any0, few1, few0']; simp
  have h2 : smSts 1 (fun _ => sA i) = shB (nE i) := by
    show (few 1 && !anyB (fun j => !smSt (sA i)) 1) = _
    rw [any1, few1, h1]; simp
  show (smVars 0 x && decide (nestS 1 (fun _ => sA i) ≤ 64) && smSts 1 (fun _ => sA i)) = _
  rw [h2, nE_sh, show smVars 0 x = true from rfl, show nestS 1 (fun _ => sA i) = 1 from rfl]
  simp
theorem sA_nest (i : Nat) : nestS 1 (fun _ => sA i) = 1 := rfl
theorem sA_dep (i : Nat) (hi : i ≤ 1000) : DepsOk 1 (fun _ => sA i) := fun j hj => ⟨fun j hj => by show (nE i).dep ≤ 1000000; rw [nE_dep]; omega, fun j hj => absurd (show j < 0 from hj) (by omega)⟩
/-- A body in so many others: how long it is, its statements. -/
def bL : Nat → Nat
  | 0 => 0
  | _ + 1 => 1
def bF : Nat → Nat → St
  | 0 => fun _ => .none
  | i + 1 => fun _ => .mk 4 0 (fun _ => .none) 1 (fun _ => bL i) (fun _ => bF i) 0 (fun _ => 0)
theorem bF_nest : ∀ i, nestS (bL i) (bF i) = i
  | 0 => rfl
  | i + 1 => by
    show max 0 (max 0 (nestS (bL i) (bF i)) + 1) = i + 1
    rw [bF_nest i]; omega
theorem bF_sm : ∀ i, smSts (bL i) (bF i) = true
  | 0 => rfl
  | i + 1 => by
    have h1 : smSt (bF (i + 1) 0) = true := by
      show (few 0 && few 1 && few 0 && !anyB _ 0 && !anyB (fun j => !smSts (bL i) (bF i)) 1) = true
      rw [any1, any0, bF_sm i]; rfl
    show (few 1 && !anyB (fun j => !smSt (bF (i + 1) 0)) 1) = true
    rw [any1, h1]; rfl
theorem bF_dep : ∀ i, DepsOk (bL i) (bF i)
  | 0 => fun j hj => absurd (show j < 0 from hj) (by omega)
  | i + 1 => fun j hj => ⟨fun j hj => absurd (show j < 0 from hj) (by omega), fun j hj => bF_dep i⟩
theorem bF_small (i : Nat) (x : Nat → Vr) : smMod 0 x (bL i) (bF i) = decide (i ≤ 64) := by
  show (smVars 0 x && decide (nestS (bL i) (bF i) ≤ 64) && smSts (bL i) (bF i)) = _
  rw [bF_nest, bF_sm, show smVars 0 x = true from rfl]; simp
/-- A statement of nothing. -/
def zS : St := .mk 0 0 (fun _ => .none) 0 (fun _ => 0) (fun _ _ => .none) 0 (fun _ => 0)
theorem zS_nest (n : Nat) (h : 0 < n) : nestS n (fun _ => zS) = 1 := by
  show maxN (fun i => (fun _ => 0 : Nat → Nat) i + 1) n = 1
  rw [maxS _ n h]
  have : ∀ k, maxN (fun _ => 0) k = 0 := fun k => by
    induction k with
    | zero => rfl
    | succ k ih => show max (maxN (fun _ => 0) k) 0 = 0; rw [ih]; rfl
  rw [this]
theorem zS_dep (n : Nat) : DepsOk n (fun _ => zS) := fun i hi => ⟨fun j hj => absurd (show j < 0 from hj) (by omega), fun j hj => absurd (show j < 0 from hj) (by omega)⟩
theorem zS_small (n : Nat) (h : 0 < n) (x : Nat → Vr) : smMod 0 x n (fun _ => zS) = decide (n ≤ 1000) := by
  show (smVars 0 x && decide (nestS n (fun _ => zS) ≤ 64) && (few n && !anyB (fun i => !smSt zS) n)) = _
  rw [zS_nest n h, show smVars 0 x = true from rfl, anyB_false (p := fun i => !smSt zS) (fun j _ => by show (!smSt zS) = false; kernel_rfl)]
  show (true && decide (1 ≤ 64) && (few n && !false)) = _
  unfold few; simp
/-- A type in so many others. -/
def tN : Nat → Ty
  | 0 => tyF 0
  | i + 1 => .mk 7 0 ByteArray.empty 1 (fun _ => tN i)
theorem tN_sm : ∀ d i, smTy d (tN i) = decide (i + 1 ≤ d)
  | 0, i => by show false = _; rw [decide_eq_false (by omega)]
  | d + 1, 0 => by
    show (nmB ByteArray.empty && few 0 && !anyB _ 0) = _
    rw [any0, decide_eq_true (by omega)]; kernel_rfl
  | d + 1, i + 1 => by
    show (nmB ByteArray.empty && few 1 && !anyB (fun j => !smTy d (tN i)) 1) = _
    rw [any1, tN_sm d i, show (nmB ByteArray.empty && few 1) = true from by kernel_rfl, Bool.true_and, Bool.not_not]
    exact decide_eq_decide.2 (by omega)
theorem vT_small (i : Nat) (f : Nat → St) : smMod 1 (fun _ => ⟨ByteArray.empty, false, tN i⟩) 0 f = decide (i + 1 ≤ 8) := by
  show ((few 1 && !anyB (fun j => !(nmB ByteArray.empty && smTy 8 (tN i))) 1) && decide (nestS 0 f ≤ 64) && smSts 0 f) = _
  rw [any1, tN_sm, few1, show nmB ByteArray.empty = true from by kernel_rfl, show nestS 0 f = 0 from rfl, show smSts 0 f = true from rfl]
  simp
theorem vN_small (s : ByteArray) (f : Nat → St) : smMod 1 (fun _ => ⟨s, false, tyF 0⟩) 0 f = decide (s.size ≤ 65) := by
  show ((few 1 && !anyB (fun j => !(nmB s && smTy 8 (tyF 0))) 1) && decide (nestS 0 f ≤ 64) && smSts 0 f) = _
  rw [any1, few1, show smTy 8 (tyF 0) = true from by kernel_rfl, show nestS 0 f = 0 from rfl, show smSts 0 f = true from rfl]
  unfold nmB
  simp
theorem none_nest (f : Nat → St) : nestS 0 f ≤ 100000 := by show (0 : Nat) ≤ 100000; omega
theorem none_dep (f : Nat → St) : DepsOk 0 f := fun j hj => absurd hj (by omega)
end Go.Proofs.Ytipcnkgojonmjaa
