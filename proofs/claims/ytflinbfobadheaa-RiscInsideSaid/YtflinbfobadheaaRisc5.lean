/- Contracts of the machines' small methods. -/
import Derived.Test.YtflinbfobadheaaRisc4
import Derived.Deep.DeepCutAuto
namespace Go.Proofs.Ytflinbfobadheaa
open Go.RowKit Go.Waf
set_option maxRecDepth 100000
set_option linter.unusedVariables false
attribute [local go_sem] mask15_u32 mask1_u32' mask16_u32 mask20_u32 mask24_u32

theorem neg32 (x : Int) (hx : W32 x) : decide (wrap32 x < 0) = decide (2147483648 ≤ x) := by
  unfold W32 at hx; unfold wrap32; rw [decide_eq_decide]; omega
theorem top32 (x : Int) (hx : W32 x) : (x / 2147483648 == 1) = decide (2147483648 ≤ x) := by
  unfold W32 at hx
  rw [Bool.eq_iff_iff, beq_iff_eq, decide_eq_true_eq]; omega
theorem wrap32_in' (x : Int) : -2147483648 ≤ wrap32 x ∧ wrap32 x ≤ 2147483647 := wrap32_le x
theorem mask7_i64 (x : Int) : bits .and .i64 x 7 = x % 8 := mask .i64 3 (by decide) (by decide) x

section
variable {w : World} {B q : Nat} {F : Nat → Prop} {cv mv iv ov : Value} {s : St}
theorem Mach.pset_h (h : Mach true w B q F cv mv iv ov s) (x : Int) (hx : W32 x) : Mach true (w.setCell ⟨q, 19, none⟩ (.int .u32 x)) B q F cv mv iv ov { s with h := x } := h.put 19 _ _ ⟨h.fit.rl, h.fit.r, h.fit.ml, h.fit.m, h.fit.i, h.fit.o, h.fit.k, h.fit.kl, hx, h.fit.p0, h.fit.p1⟩ rfl rfl rfl rfl (setP_h s cv mv iv ov h.fit.rl x)
theorem Mach.p_h (h : Mach true w B q F cv mv iv ov s) : w.cell? ⟨q, 19, none⟩ = some (.int .u32 s.h) := by rw [h.cell]; exact getP_h s cv mv iv ov h.fit.rl
theorem Mach.pset_n (h : Mach true w B q F cv mv iv ov s) (x : Bool) : Mach true (w.setCell ⟨q, 20, none⟩ (.bool x)) B q F cv mv iv ov { s with n := x } := h.put 20 _ _ ⟨h.fit.rl, h.fit.r, h.fit.ml, h.fit.m, h.fit.i, h.fit.o, h.fit.k, h.fit.kl, h.fit.h, h.fit.p0, h.fit.p1⟩ rfl rfl rfl rfl (setP_n s cv mv iv ov h.fit.rl x)
theorem Mach.p_n (h : Mach true w B q F cv mv iv ov s) : w.cell? ⟨q, 20, none⟩ = some (.bool s.n) := by rw [h.cell]; exact getP_n s cv mv iv ov h.fit.rl
theorem Mach.pset_z (h : Mach true w B q F cv mv iv ov s) (x : Bool) : Mach true (w.setCell ⟨q, 21, none⟩ (.bool x)) B q F cv mv iv ov { s with z := x } := h.put 21 _ _ ⟨h.fit.rl, h.fit.r, h.fit.ml, h.fit.m, h.fit.i, h.fit.o, h.fit.k, h.fit.kl, h.fit.h, h.fit.p0, h.fit.p1⟩ rfl rfl rfl rfl (setP_z s cv mv iv ov h.fit.rl x)
theorem Mach.p_z (h : Mach true w B q F cv mv iv ov s) : w.cell? ⟨q, 21, none⟩ = some (.bool s.z) := by rw [h.cell]; exact getP_z s cv mv iv ov h.fit.rl
theorem Mach.pset_c (h : Mach true w B q F cv mv iv ov s) (x : Bool) : Mach true (w.setCell ⟨q, 22, none⟩ (.bool x)) B q F cv mv iv ov { s with c := x } := h.put 22 _ _ ⟨h.fit.rl, h.fit.r, h.fit.ml, h.fit.m, h.fit.i, h.fit.o, h.fit.k, h.fit.kl, h.fit.h, h.fit.p0, h.fit.p1⟩ rfl rfl rfl rfl (setP_c s cv mv iv ov h.fit.rl x)
theorem Mach.p_c (h : Mach true w B q F cv mv iv ov s) : w.cell? ⟨q, 22, none⟩ = some (.bool s.c) := by rw [h.cell]; exact getP_c s cv mv iv ov h.fit.rl
theorem Mach.pset_v (h : Mach true w B q F cv mv iv ov s) (x : Bool) : Mach true (w.setCell ⟨q, 23, none⟩ (.bool x)) B q F cv mv iv ov { s with v := x } := h.put 23 _ _ ⟨h.fit.rl, h.fit.r, h.fit.ml, h.fit.m, h.fit.i, h.fit.o, h.fit.k, h.fit.kl, h.fit.h, h.fit.p0, h.fit.p1⟩ rfl rfl rfl rfl (setP_v s cv mv iv ov h.fit.rl x)
theorem Mach.p_v (h : Mach true w B q F cv mv iv ov s) : w.cell? ⟨q, 23, none⟩ = some (.bool s.v) := by rw [h.cell]; exact getP_v s cv mv iv ov h.fit.rl
theorem Mach.pset_pc (h : Mach true w B q F cv mv iv ov s) (x : Int) (hx0 : 0 ≤ x) (hx1 : x ≤ 1048576) : Mach true (w.setCell ⟨q, 24, none⟩ (.int .i64 x)) B q F cv mv iv ov { s with pc := x } := h.put 24 _ _ ⟨h.fit.rl, h.fit.r, h.fit.ml, h.fit.m, h.fit.i, h.fit.o, h.fit.k, h.fit.kl, h.fit.h, hx0, hx1⟩ rfl rfl rfl rfl (setP_pc s cv mv iv ov h.fit.rl x)
theorem Mach.p_pc (h : Mach true w B q F cv mv iv ov s) : w.cell? ⟨q, 24, none⟩ = some (.int .i64 s.pc) := by rw [h.cell]; exact getP_pc s cv mv iv ov h.fit.rl
theorem Mach.pset_fin (h : Mach true w B q F cv mv iv ov s) (x : Int) : Mach true (w.setCell ⟨q, 26, none⟩ (.int .i64 x)) B q F cv mv iv ov { s with fin := x } := h.put 26 _ _ ⟨h.fit.rl, h.fit.r, h.fit.ml, h.fit.m, h.fit.i, h.fit.o, h.fit.k, h.fit.kl, h.fit.h, h.fit.p0, h.fit.p1⟩ rfl rfl rfl rfl (setP_fin s cv mv iv ov h.fit.rl x)
theorem Mach.p_fin (h : Mach true w B q F cv mv iv ov s) : w.cell? ⟨q, 26, none⟩ = some (.int .i64 s.fin) := by rw [h.cell]; exact getP_fin s cv mv iv ov h.fit.rl
theorem Mach.pset_trap (h : Mach true w B q F cv mv iv ov s) (x : Int) : Mach true (w.setCell ⟨q, 27, none⟩ (.int .i64 x)) B q F cv mv iv ov { s with trap := x } := h.put 27 _ _ ⟨h.fit.rl, h.fit.r, h.fit.ml, h.fit.m, h.fit.i, h.fit.o, h.fit.k, h.fit.kl, h.fit.h, h.fit.p0, h.fit.p1⟩ rfl rfl rfl rfl (setP_trap s cv mv iv ov h.fit.rl x)
theorem Mach.p_trap (h : Mach true w B q F cv mv iv ov s) : w.cell? ⟨q, 27, none⟩ = some (.int .i64 s.trap) := by rw [h.cell]; exact getP_trap s cv mv iv ov h.fit.rl
theorem Mach.pset_r (h : Mach true w B q F cv mv iv ov s) (a : Nat) (ha : a < 16) (x : Int) (hx : W32 x) : Mach true (w.setCell ⟨q, 3 + a, none⟩ (.int .u32 x)) B q F cv mv iv ov { s with r := s.r.set a x } := h.put (3 + a) _ _ ⟨by simp [h.fit.rl], set_all h.fit.r _ hx, h.fit.ml, h.fit.m, h.fit.i, h.fit.o, h.fit.k, h.fit.kl, h.fit.h, h.fit.p0, h.fit.p1⟩ rfl rfl rfl rfl (setP_r s cv mv iv ov h.fit.rl a ha x)
theorem Mach.p_r (h : Mach true w B q F cv mv iv ov s) (a : Nat) (ha : a < 16) : w.cell? ⟨q, 3 + a, none⟩ = some (.int .u32 (s.r.getD a 0)) := by rw [h.cell]; exact getP_r s cv mv iv ov h.fit.rl a ha
theorem Mach.p_cv (h : Mach true w B q F cv mv iv ov s) : w.cell? ⟨q, 0, none⟩ = some cv := by rw [h.cell]; exact getP_cv s cv mv iv ov h.fit.rl
theorem Mach.p_mv (h : Mach true w B q F cv mv iv ov s) : w.cell? ⟨q, 1, none⟩ = some mv := by rw [h.cell]; exact getP_mv s cv mv iv ov h.fit.rl
theorem Mach.p_iv (h : Mach true w B q F cv mv iv ov s) : w.cell? ⟨q, 2, none⟩ = some iv := by rw [h.cell]; exact getP_iv s cv mv iv ov h.fit.rl
theorem Mach.p_ov (h : Mach true w B q F cv mv iv ov s) : w.cell? ⟨q, 25, none⟩ = some ov := by rw [h.cell]; exact getP_ov s cv mv iv ov h.fit.rl

theorem pfault_any (h : Mach true w B q F cv mv iv ov s) : Calls Try.prog 31 #[.pointer (some ⟨q, 0, none⟩)] w fun e w' => e = .returned (.tuple #[]) ∧ Mach true w' B q F cv mv iv ov s.fault ∧ Fr F w w' := by
  have c1 := h.p_fin
  have c2 := h.p_trap
  have f1 := h.frozen 26
  have f2 := h.frozen 27
  have H := Lib.hid h
  clear h
  go_enter Try.func31, Try.ntmps31
  go_wp2_with fail
  go_end0
  exact ⟨rfl, (H.out.pset_fin 2).pset_trap 15, (H.out.fr _ _).trans ((H.out.pset_fin 2).fr _ _) (fun _ _ h => h)⟩

theorem ptold_any (h : Mach true w B q F cv mv iv ov s) (a : Nat) (ha : a < 16) (x : Int) (hx : W32 x) : Calls Try.prog 55 #[.pointer (some ⟨q, 0, none⟩), .int .i64 a, .int .u32 x] w fun e w' => e = .returned (.tuple #[]) ∧ Mach true w' B q F cv mv iv ov (s.told a x) ∧ Fr F w w' := by
  have h1 := h.pset_r a ha x hx
  have h2 := h1.pset_n (decide (2147483648 ≤ x))
  have h3 := h2.pset_z (x == 0)
  have hfr := ((h.fr (3 + a) (.int .u32 x)).trans (h1.fr 20 (.bool (decide (2147483648 ≤ x)))) (fun _ _ h => h)).trans (h2.fr 21 (.bool (x == 0))) (fun _ _ h => h)
  have c0 := h.p_r a ha
  have f0 := h.frozen (3 + a)
  have c1 := h1.p_n
  have f1 := h1.frozen 20
  have c2 := h2.p_z
  have f2 := h2.frozen 21
  have e1 := neg32 x hx
  obtain ⟨hx0, hx1⟩ := hx
  have H3 := Lib.hid h3
  have HF := Lib.hid hfr
  clear h h1 h2 h3 hfr
  go_enter Try.func55, Try.ntmps55
  go_wp2_with fail
  go_end0
  exact ⟨rfl, H3.out, HF.out⟩
theorem Mach.rset_h (h : Mach false w B q F cv mv iv ov s) (x : Int) (hx : W32 x) : Mach false (w.setCell ⟨q, 18, none⟩ (.int .u32 x)) B q F cv mv iv ov { s with h := x } := h.put 18 _ _ ⟨h.fit.rl, h.fit.r, h.fit.ml, h.fit.m, h.fit.i, h.fit.o, h.fit.k, h.fit.kl, hx, h.fit.p0, h.fit.p1⟩ rfl rfl rfl rfl (setR_h s cv mv iv ov h.fit.rl x)
theorem Mach.r_h (h : Mach false w B q F cv mv iv ov s) : w.cell? ⟨q, 18, none⟩ = some (.int .u32 s.h) := by rw [h.cell]; exact getR_h s cv mv iv ov h.fit.rl
theorem Mach.rset_n (h : Mach false w B q F cv mv iv ov s) (x : Bool) : Mach false (w.setCell ⟨q, 19, none⟩ (.bool x)) B q F cv mv iv ov { s with n := x } := h.put 19 _ _ ⟨h.fit.rl, h.fit.r, h.fit.ml, h.fit.m, h.fit.i, h.fit.o, h.fit.k, h.fit.kl, h.fit.h, h.fit.p0, h.fit.p1⟩ rfl rfl rfl rfl (setR_n s cv mv iv ov h.fit.rl x)
theorem Mach.r_n (h : Mach false w B q F cv mv iv ov s) : w.cell? ⟨q, 19, none⟩ = some (.bool s.n) := by rw [h.cell]; exact getR_n s cv mv iv ov h.fit.rl
theorem Mach.rset_z (h : Mach false w B q F cv mv iv ov s) (x : Bool) : Mach false (w.setCell ⟨q, 20, none⟩ (.bool x)) B q F cv mv iv ov { s with z := x } := h.put 20 _ _ ⟨h.fit.rl, h.fit.r, h.fit.ml, h.fit.m, h.fit.i, h.fit.o, h.fit.k, h.fit.kl, h.fit.h, h.fit.p0, h.fit.p1⟩ rfl rfl rfl rfl (setR_z s cv mv iv ov h.fit.rl x)
theorem Mach.r_z (h : Mach false w B q F cv mv iv ov s) : w.cell? ⟨q, 20, none⟩ = some (.bool s.z) := by rw [h.cell]; exact getR_z s cv mv iv ov h.fit.rl
theorem Mach.rset_c (h : Mach false w B q F cv mv iv ov s) (x : Bool) : Mach false (w.setCell ⟨q, 21, none⟩ (.bool x)) B q F cv mv iv ov { s with c := x } := h.put 21 _ _ ⟨h.fit.rl, h.fit.r, h.fit.ml, h.fit.m, h.fit.i, h.fit.o, h.fit.k, h.fit.kl, h.fit.h, h.fit.p0, h.fit.p1⟩ rfl rfl rfl rfl (setR_c s cv mv iv ov h.fit.rl x)
theorem Mach.r_c (h : Mach false w B q F cv mv iv ov s) : w.cell? ⟨q, 21, none⟩ = some (.bool s.c) := by rw [h.cell]; exact getR_c s cv mv iv ov h.fit.rl
theorem Mach.rset_v (h : Mach false w B q F cv mv iv ov s) (x : Bool) : Mach false (w.setCell ⟨q, 22, none⟩ (.bool x)) B q F cv mv iv ov { s with v := x } := h.put 22 _ _ ⟨h.fit.rl, h.fit.r, h.fit.ml, h.fit.m, h.fit.i, h.fit.o, h.fit.k, h.fit.kl, h.fit.h, h.fit.p0, h.fit.p1⟩ rfl rfl rfl rfl (setR_v s cv mv iv ov h.fit.rl x)
theorem Mach.r_v (h : Mach false w B q F cv mv iv ov s) : w.cell? ⟨q, 22, none⟩ = some (.bool s.v) := by rw [h.cell]; exact getR_v s cv mv iv ov h.fit.rl
theorem Mach.rset_pc (h : Mach false w B q F cv mv iv ov s) (x : Int) (hx0 : 0 ≤ x) (hx1 : x ≤ 1048576) : Mach false (w.setCell ⟨q, 23, none⟩ (.int .i64 x)) B q F cv mv iv ov { s with pc := x } := h.put 23 _ _ ⟨h.fit.rl, h.fit.r, h.fit.ml, h.fit.m, h.fit.i, h.fit.o, h.fit.k, h.fit.kl, h.fit.h, hx0, hx1⟩ rfl rfl rfl rfl (setR_pc s cv mv iv ov h.fit.rl x)
theorem Mach.r_pc (h : Mach false w B q F cv mv iv ov s) : w.cell? ⟨q, 23, none⟩ = some (.int .i64 s.pc) := by rw [h.cell]; exact getR_pc s cv mv iv ov h.fit.rl
theorem Mach.rset_fin (h : Mach false w B q F cv mv iv ov s) (x : Int) : Mach false (w.setCell ⟨q, 26, none⟩ (.int .i64 x)) B q F cv mv iv ov { s with fin := x } := h.put 26 _ _ ⟨h.fit.rl, h.fit.r, h.fit.ml, h.fit.m, h.fit.i, h.fit.o, h.fit.k, h.fit.kl, h.fit.h, h.fit.p0, h.fit.p1⟩ rfl rfl rfl rfl (setR_fin s cv mv iv ov h.fit.rl x)
theorem Mach.r_fin (h : Mach false w B q F cv mv iv ov s) : w.cell? ⟨q, 26, none⟩ = some (.int .i64 s.fin) := by rw [h.cell]; exact getR_fin s cv mv iv ov h.fit.rl
theorem Mach.rset_trap (h : Mach false w B q F cv mv iv ov s) (x : Int) : Mach false (w.setCell ⟨q, 27, none⟩ (.int .i64 x)) B q F cv mv iv ov { s with trap := x } := h.put 27 _ _ ⟨h.fit.rl, h.fit.r, h.fit.ml, h.fit.m, h.fit.i, h.fit.o, h.fit.k, h.fit.kl, h.fit.h, h.fit.p0, h.fit.p1⟩ rfl rfl rfl rfl (setR_trap s cv mv iv ov h.fit.rl x)
theorem Mach.r_trap (h : Mach false w B q F cv mv iv ov s) : w.cell? ⟨q, 27, none⟩ = some (.int .i64 s.trap) := by rw [h.cell]; exact getR_trap s cv mv iv ov h.fit.rl
theorem Mach.rset_r (h : Mach false w B q F cv mv iv ov s) (a : Nat) (ha : a < 16) (x : Int) (hx : W32 x) : Mach false (w.setCell ⟨q, 2 + a, none⟩ (.int .u32 x)) B q F cv mv iv ov { s with r := s.r.set a x } := h.put (2 + a) _ _ ⟨by simp [h.fit.rl], set_all h.fit.r _ hx, h.fit.ml, h.fit.m, h.fit.i, h.fit.o, h.fit.k, h.fit.kl, h.fit.h, h.fit.p0, h.fit.p1⟩ rfl rfl rfl rfl (setR_r s cv mv iv ov h.fit.rl a ha x)
theorem Mach.r_r (h : Mach false w B q F cv mv iv ov s) (a : Nat) (ha : a < 16) : w.cell? ⟨q, 2 + a, none⟩ = some (.int .u32 (s.r.getD a 0)) := by rw [h.cell]; exact getR_r s cv mv iv ov h.fit.rl a ha
theorem Mach.r_cv (h : Mach false w B q F cv mv iv ov s) : w.cell? ⟨q, 0, none⟩ = some cv := by rw [h.cell]; exact getR_cv s cv mv iv ov h.fit.rl
theorem Mach.r_mv (h : Mach false w B q F cv mv iv ov s) : w.cell? ⟨q, 1, none⟩ = some mv := by rw [h.cell]; exact getR_mv s cv mv iv ov h.fit.rl
theorem Mach.r_iv (h : Mach false w B q F cv mv iv ov s) : w.cell? ⟨q, 24, none⟩ = some iv := by rw [h.cell]; exact getR_iv s cv mv iv ov h.fit.rl
theorem Mach.r_ov (h : Mach false w B q F cv mv iv ov s) : w.cell? ⟨q, 25, none⟩ = some ov := by rw [h.cell]; exact getR_ov s cv mv iv ov h.fit.rl

theorem rfault_any (h : Mach false w B q F cv mv iv ov s) : Calls Try.prog 39 #[.pointer (some ⟨q, 0, none⟩)] w fun e w' => e = .returned (.tuple #[]) ∧ Mach false w' B q F cv mv iv ov s.fault ∧ Fr F w w' := by
  have c1 := h.r_fin
  have c2 := h.r_trap
  have f1 := h.frozen 26
  have f2 := h.frozen 27
  have H := Lib.hid h
  clear h
  go_enter Try.func39, Try.ntmps39
  go_wp2_with fail
  go_end0
  exact ⟨rfl, (H.out.rset_fin 2).rset_trap 15, (H.out.fr _ _).trans ((H.out.rset_fin 2).fr _ _) (fun _ _ h => h)⟩

theorem rtold_any (h : Mach false w B q F cv mv iv ov s) (a : Nat) (ha : a < 16) (x : Int) (hx : W32 x) : Calls Try.prog 63 #[.pointer (some ⟨q, 0, none⟩), .int .i64 a, .int .u32 x] w fun e w' => e = .returned (.tuple #[]) ∧ Mach false w' B q F cv mv iv ov (s.told a x) ∧ Fr F w w' := by
  have h1 := h.rset_r a ha x hx
  have h2 := h1.rset_n (decide (2147483648 ≤ x))
  have h3 := h2.rset_z (x == 0)
  have hfr := ((h.fr (2 + a) (.int .u32 x)).trans (h1.fr 19 (.bool (decide (2147483648 ≤ x)))) (fun _ _ h => h)).trans (h2.fr 20 (.bool (x == 0))) (fun _ _ h => h)
  have c0 := h.r_r a ha
  have f0 := h.frozen (2 + a)
  have c1 := h1.r_n
  have f1 := h1.frozen 19
  have c2 := h2.r_z
  have f2 := h2.frozen 20
  have e1 := top32 x hx
  obtain ⟨hx0, hx1⟩ := hx
  have H3 := Lib.hid h3
  have HF := Lib.hid hfr
  clear h h1 h2 h3 hfr
  go_enter Try.func63, Try.ntmps63
  go_wp2_with fail
  go_end0
  exact ⟨rfl, H3.out, HF.out⟩
end
end Go.Proofs.Ytflinbfobadheaa
