/- The contract of the law's own example. -/
import Derived.Test.YtflinbfobadheaaRisc16
import Derived.Test.YtflinbfobadheaaRisc17
import Derived.Test.YtflinbfobadheaaRisc18
namespace Go.Proofs.Ytflinbfobadheaa
open Go.RowKit Go.Waf
set_option maxRecDepth 100000
set_option linter.unusedVariables false

def k1 : Int := encW ⟨1, false, false, 1, 0, 0, 0, 65⟩
def k2 : Int := encW ⟨2, true, false, 1, 0, 0, 0, -64⟩
def k3 : Int := encW ⟨3, false, true, 7, 0, 12, 0, 0⟩
def kst : St := (St.new [k1, k2, k3] 4 []).stepN 10
theorem kst_out : kst.out = [65] := by decide +kernel
theorem kst_fin : kst.fin = 1 := by decide +kernel
theorem kst_trap : kst.trap = 0 := by decide +kernel
theorem kst_r : kst.r.getD 1 0 = 65 := by decide +kernel
theorem k_in : W32 k1 ∧ W32 k2 ∧ W32 k3 := by unfold W32; decide +kernel
theorem kright1 : Right ⟨1, false, false, 1, 0, 0, 0, 65⟩ := by unfold Right nib; decide
theorem kright2 : Right ⟨2, true, false, 1, 0, 0, 0, -64⟩ := by unfold Right nib; decide
theorem kright3 : Right ⟨3, false, true, 7, 0, 12, 0, 0⟩ := by unfold Right nib; decide
theorem str_A : strOfNums [65] = ⟨#[65]⟩ := by rfl
theorem Mach.fr_below {p : Bool} {w w' : World} {B q base : Nat} {F : Nat → Prop} {cv mv iv ov : Value} {s : St} (h : Mach p w B q F cv mv iv ov s) (hB : base ≤ B) (hf : Fr F w w') : Below base w w' := by
  have := h.fb q h.fq
  exact hf.below (by omega) (fun i hi hF => by have := h.fb i hF; omega)
theorem known_step {w : World} {B q : Nat} {F : Nat → Prop} {cv mv iv ov : Value} (h : Mach true w B q F cv mv iv ov kst) :
    Calls Try.prog 20 #[.pointer (some ⟨q, 0, none⟩)] w fun e w' => e = .returned (.bool false) ∧ Fr F w w' := by
  refine (pstep_any h (by rw [kst_out]; simp)).mono ?_
  rintro e w' ⟨he, _, hf⟩
  rw [kst_fin] at he
  exact ⟨he, hf⟩
set_option maxHeartbeats 3200000 in
theorem known_any (w : World) : Calls Try.prog 11 #[] w fun e w' => e = .returned (.bool true) ∧ Below w.heap.size w w' := by
  have e1 : ∀ W, Calls Try.prog 22 #[.agg #[.int .i64 1, .bool false, .bool false, .int .i64 1, .int .i64 0, .int .i64 0, .int .i64 0, .int .i32 65]] W fun e w' => e = .returned (.tuple #[.int .u32 k1, .bool true]) ∧ Below W.heap.size W w' := fun W => renc_any _ kright1 W
  have e2 : ∀ W, Calls Try.prog 22 #[.agg #[.int .i64 2, .bool true, .bool false, .int .i64 1, .int .i64 0, .int .i64 0, .int .i64 0, .int .i32 (-64)]] W fun e w' => e = .returned (.tuple #[.int .u32 k2, .bool true]) ∧ Below W.heap.size W w' := fun W => renc_any _ kright2 W
  have e3 : ∀ W, Calls Try.prog 22 #[.agg #[.int .i64 3, .bool false, .bool true, .int .i64 7, .int .i64 0, .int .i64 12, .int .i64 0, .int .i32 0]] W fun e w' => e = .returned (.tuple #[.int .u32 k3, .bool true]) ∧ Below W.heap.size W w' := fun W => renc_any _ kright3 W
  have E1 := Lib.hid e1
  have E2 := Lib.hid e2
  have E3 := Lib.hid e3
  clear e1 e2 e3
  go_enter Try.func11, Try.ntmps11
  go_wp2_with fail
  refine (E1.out _).mono ?_; rintro e w1 ⟨rfl, hb1⟩
  go_wp2_with fail
  refine (E2.out _).mono ?_; rintro e w2 ⟨rfl, hb2⟩
  go_wp2_with fail
  refine (E3.out _).mono ?_; rintro e w3 ⟨rfl, hb3⟩
  have HB3 := Lib.hid ((hb1.trans (hb2.mono hb1.size)).trans (hb3.mono (Nat.le_trans hb1.size hb2.size)))
  clear hb1 hb2 hb3
  go_wp2_with fail
  have hrd : Rd (w3.alloc (.cells #[.int .u32 k1, .int .u32 k2, .int .u32 k3] 37)) 1 (.slice (some ⟨w3.heap.size, 0, none⟩) 3 3) 3 (u32s [k1, k2, k3]) := rd_new w3 (u32s [k1, k2, k3]) 37 3 1 rfl (by decide)
  have HRD := Lib.hid hrd
  clear hrd
  refine (pnew_n _ _ _ 4 4 (.inl rfl) [k1, k2, k3] [] (by simp [k_in.1, k_in.2.1, k_in.2.2]) (by simp) (by simp) (by simp) (by omega) HRD.out (Rd.nil _ 1)).mono ?_
  rintro e w5 ⟨q, F, cv, mv, iv, rfl, hM, _, _, hb5⟩
  have HM := Lib.hid hM
  have HB5 := Lib.hid hb5
  clear hM hb5 HRD
  go_wp2_with fail
  refine (prun_any HM.out 10 (by omega) (by omega) (by simp [St.new])).mono ?_
  rintro e w6 ⟨v, F', iv', ov', he, ho, hM6, _, _, hfr⟩
  change Mach true w6 _ q F' cv mv iv' ov' kst at hM6
  change w6.ownsRow _ _ _ v kst.out.length (byt kst.out) at ho
  change e = .returned (.agg #[v, .int .i64 kst.fin, .int .i64 kst.trap]) at he
  rw [kst_fin, kst_trap] at he
  rw [kst_out] at ho
  subst he
  obtain ⟨va, vc, rfl, _, _, _⟩ := owns_shape ho
  have hb6 : Below w.heap.size w w6 := by
    have h1 : Below w.heap.size w (w3.alloc (.cells #[.int .u32 k1, .int .u32 k2, .int .u32 k3] 37)) := HB3.out.alloc HB3.out.size _
    have h2 := h1.trans (HB5.out.mono h1.size)
    exact h2.trans (HM.out.fr_below h1.size hfr)
  have kc := fun O : Obj => conv_box _ (.slice va [65].length vc) [65] ((rd_of_owns ho).below ((Below.refl _ _).alloc (Nat.le_refl _) O) (Nat.le_refl _))
  rw [str_A] at kc
  replace kc : ∀ O : Obj, (convert 22 9 (.slice va 1 vc)).run Try.prog (w6.alloc O) = .ok (.string ⟨#[65]⟩) (w6.alloc O) := kc
  have hr := fun O : Obj => preg_any (hM6.alloc O) 1 (by omega)
  rw [kst_r] at hr
  have hst := fun O : Obj => known_step (hM6.alloc O)
  have hM7 := fun O : Obj => hM6.alloc O
  have HM7 := Lib.hid hM7
  have HR := Lib.hid hr
  have HST := Lib.hid hst
  have HB6 := Lib.hid hb6
  have hmB : w.heap.size ≤ (w3.alloc (.cells #[.int .u32 k1, .int .u32 k2, .int .u32 k3] 37)).heap.size := (HB3.out.alloc HB3.out.size _).size
  have HMB := Lib.hid hmB
  clear ho hM6 hfr hr hst hb6 hM7 HM HB5 hmB
  go_wp2_with fail
  refine (HR.out _).mono ?_; rintro e wz ⟨rfl, rfl⟩
  go_wp2_with fail
  refine (HST.out _).mono ?_; rintro e w8 ⟨rfl, hf8⟩
  have hb8 : Below w.heap.size w w8 := (HB6.out.alloc HB6.out.size _).trans ((HM7.out _).fr_below HMB.out hf8)
  have HB8 := Lib.hid hb8
  clear hf8 hb8
  go_wp2_with fail
  go_ret
  exact ⟨rfl, HB8.out⟩
end Go.Proofs.Ytflinbfobadheaa
