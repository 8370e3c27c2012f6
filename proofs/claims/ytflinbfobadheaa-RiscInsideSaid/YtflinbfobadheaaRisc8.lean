/- Contracts of sum, product, operate. -/
import Derived.Test.YtflinbfobadheaaRisc7
namespace Go.Proofs.Ytflinbfobadheaa
open Go.RowKit Go.Waf
set_option maxRecDepth 100000
set_option linter.unusedVariables false

section
variable {w : World} {B q : Nat} {F : Nat → Prop} {cv mv iv ov : Value} {s : St}
theorem box_cell {w w1 : World} {cs : Array Value} {T : TypeId} (hb : Below (w.alloc (.cells cs T)).heap.size (w.alloc (.cells cs T)) w1) (j : Nat) : w1.cell? ⟨w.heap.size, j, none⟩ = cs[j]? := by
  rw [hb.cell (p := ⟨w.heap.size, j, none⟩) (by simp), World.cell?_alloc_new]
theorem carry_in (s : St) (i : Ins) : 0 ≤ s.carry i ∧ s.carry i ≤ 1 := by unfold St.carry; split <;> omega

set_option maxHeartbeats 800000 in
theorem sum8_any (h : Mach true w B q F cv mv iv ov s) (i : Ins) (hi : i.op = 8) (b n : Int) (hb : W32 b) (hn : W32 n) :
    Calls Try.prog 51 #[.pointer (some ⟨q, 0, none⟩), insV i, .int .u32 b, .int .u32 n] w fun e w' => e = .returned (.int .u32 (cut32 (b + n + s.carry i))) ∧ Mach true w' B q F cv mv iv ov { s with c := decide (4294967296 ≤ b + n + s.carry i), v := over (wrap32 b + wrap32 n + s.carry i) } ∧ Fr F w w' := by
  have HC := Lib.hid (fun (W : World) (hW : Mach true W B q F cv mv iv ov s) => carry_any hW i)
  have hk := carry_in s i
  obtain ⟨k, hkk⟩ : ∃ k, k = s.carry i := ⟨_, rfl⟩
  have hC := HC.out
  rw [← hkk] at hk hC ⊢
  have HA := Lib.hid (fun W => add32_any b n k hb hn hk W)
  obtain ⟨hb0, hb1⟩ := hb
  obtain ⟨hn0, hn1⟩ := hn
  obtain ⟨hk0, hk1⟩ := hk
  have e1 : ((b + n + k) / 4294967296 == 1) = decide (4294967296 ≤ b + n + k) := by rw [Bool.eq_iff_iff, beq_iff_eq, decide_eq_true_eq]; omega
  have HC2 := Lib.hid hC
  have H := Lib.hid h
  have hql : q < w.heap.size := (h.fb q h.fq).2
  obtain ⟨f, u, v, a, bb, c, op, imm⟩ := i
  obtain rfl : op = 8 := hi
  simp only [insV] at HC2 ⊢
  obtain ⟨y1, y2⟩ := wrap32_in' b
  obtain ⟨y3, y4⟩ := wrap32_in' n
  obtain ⟨X, hX⟩ : ∃ X, wrap32 b = X := ⟨_, rfl⟩
  obtain ⟨Y, hY⟩ : ∃ Y, wrap32 n = Y := ⟨_, rfl⟩
  rw [hX] at y1 y2 ⊢
  rw [hY] at y3 y4 ⊢
  have hT : wrap64 (wrap32 (X + Y + k)) = wrap32 (X + Y + k) := IntWalk.wrap64_in _ (by have := wrap32_in' (X + Y + k); omega)
  clear HC hC hkk h
  go_enter Try.func51, Try.ntmps51
  go_wp2_with fail
  refine (HC2.out _ (H.out.alloc _)).mono ?_; rintro e w1 ⟨rfl, hb1'⟩
  have d6 : w1.cell? ⟨w.heap.size, 6, none⟩ = some (.int .i64 8) := box_cell hb1' 6
  have hM := (H.out.alloc _).below hb1'
  have c1 := hM.p_c
  have c2 := hM.p_v
  have f1 := hM.frozen 22
  have f2 := hM.frozen 23
  have HM := Lib.hid hM
  have HFR := Lib.hid (Fr.of_new (F := F) (((Below.refl w.heap.size w).alloc (Nat.le_refl _) _).trans (hb1'.mono (by simp))))
  clear hM hb1'
  go_wp2_with fail
  refine (HA.out _).mono ?_; rintro e w2 ⟨rfl, rfl⟩
  go_wp2_with fail
  go_ret
  exact ⟨rfl, (HM.out.pset_c _).pset_v _, (HFR.out.setCell (p := ⟨q, 22, none⟩) (.inr H.out.fq) _).setCell (p := ⟨q, 23, none⟩) (.inr H.out.fq) _⟩

set_option maxHeartbeats 800000 in
theorem sum9_any (h : Mach true w B q F cv mv iv ov s) (i : Ins) (hi : i.op = 9) (b n : Int) (hb : W32 b) (hn : W32 n) :
    Calls Try.prog 51 #[.pointer (some ⟨q, 0, none⟩), insV i, .int .u32 b, .int .u32 n] w fun e w' => e = .returned (.int .u32 (cut32 (b - n - s.carry i))) ∧ Mach true w' B q F cv mv iv ov { s with c := decide (b < n + s.carry i), v := over (wrap32 b - wrap32 n - s.carry i) } ∧ Fr F w w' := by
  have HC := Lib.hid (fun (W : World) (hW : Mach true W B q F cv mv iv ov s) => carry_any hW i)
  have hk := carry_in s i
  obtain ⟨k, hkk⟩ : ∃ k, k = s.carry i := ⟨_, rfl⟩
  have hC := HC.out
  rw [← hkk] at hk hC ⊢
  have HA := Lib.hid (fun W => sub32_any b n k hb hn hk W)
  obtain ⟨hb0, hb1⟩ := hb
  obtain ⟨hn0, hn1⟩ := hn
  obtain ⟨hk0, hk1⟩ := hk
  have e1 : (num (decide (b < n + k)) == 1) = decide (b < n + k) := by exact num_is _
  have HC2 := Lib.hid hC
  have H := Lib.hid h
  have hql : q < w.heap.size := (h.fb q h.fq).2
  obtain ⟨f, u, v, a, bb, c, op, imm⟩ := i
  obtain rfl : op = 9 := hi
  simp only [insV] at HC2 ⊢
  obtain ⟨y1, y2⟩ := wrap32_in' b
  obtain ⟨y3, y4⟩ := wrap32_in' n
  obtain ⟨X, hX⟩ : ∃ X, wrap32 b = X := ⟨_, rfl⟩
  obtain ⟨Y, hY⟩ : ∃ Y, wrap32 n = Y := ⟨_, rfl⟩
  rw [hX] at y1 y2 ⊢
  rw [hY] at y3 y4 ⊢
  have hT : wrap64 (wrap32 (X - Y - k)) = wrap32 (X - Y - k) := IntWalk.wrap64_in _ (by have := wrap32_in' (X - Y - k); omega)
  clear HC hC hkk h
  go_enter Try.func51, Try.ntmps51
  go_wp2_with fail
  refine (HC2.out _ (H.out.alloc _)).mono ?_; rintro e w1 ⟨rfl, hb1'⟩
  have d6 : w1.cell? ⟨w.heap.size, 6, none⟩ = some (.int .i64 9) := box_cell hb1' 6
  have hM := (H.out.alloc _).below hb1'
  have c1 := hM.p_c
  have c2 := hM.p_v
  have f1 := hM.frozen 22
  have f2 := hM.frozen 23
  have HM := Lib.hid hM
  have HFR := Lib.hid (Fr.of_new (F := F) (((Below.refl w.heap.size w).alloc (Nat.le_refl _) _).trans (hb1'.mono (by simp))))
  clear hM hb1'
  go_wp2_with fail
  refine (HA.out _).mono ?_; rintro e w2 ⟨rfl, rfl⟩
  go_wp2_with fail
  go_ret
  exact ⟨rfl, (HM.out.pset_c _).pset_v _, (HFR.out.setCell (p := ⟨q, 22, none⟩) (.inr H.out.fq) _).setCell (p := ⟨q, 23, none⟩) (.inr H.out.fq) _⟩

theorem mul_u (P : Int) : P % 18446744073709551616 / 4294967296 % 4294967296 = cut32 (P / 4294967296) ∧ P % 18446744073709551616 % 4294967296 = cut32 P := by unfold cut32; omega
theorem mul_s (P : Int) : wrap64 P % 18446744073709551616 = P % 18446744073709551616 := by unfold wrap64; omega
set_option maxHeartbeats 800000 in
theorem product_any (h : Mach true w B q F cv mv iv ov s) (i : Ins) (b n : Int) (hb : W32 b) (hn : W32 n) :
    Calls Try.prog 52 #[.pointer (some ⟨q, 0, none⟩), insV i, .int .u32 b, .int .u32 n] w fun e w' => e = .returned (.int .u32 (cut32 (if i.u then b * n else wrap32 b * wrap32 n))) ∧ Mach true w' B q F cv mv iv ov { s with h := cut32 ((if i.u then b * n else wrap32 b * wrap32 n) / 4294967296) } ∧ Fr F w w' := by
  have H := Lib.hid h
  have hql : q < w.heap.size := (h.fb q h.fq).2
  obtain ⟨f, u, v, a, bb, c, op, imm⟩ := i
  have c1 := h.p_h
  have f1 := h.frozen 19
  obtain ⟨hb0, hb1⟩ := hb
  obtain ⟨hn0, hn1⟩ := hn
  simp only [insV]
  obtain ⟨y1, y2⟩ := wrap32_in' b
  obtain ⟨y3, y4⟩ := wrap32_in' n
  obtain ⟨X, hX⟩ : ∃ X, wrap32 b = X := ⟨_, rfl⟩
  obtain ⟨Y, hY⟩ : ∃ Y, wrap32 n = Y := ⟨_, rfl⟩
  rw [hX] at y1 y2 ⊢
  rw [hY] at y3 y4 ⊢
  clear h
  have p1 := mul_u (b * n)
  have p2 := mul_u (X * Y)
  have p3 := mul_s (X * Y)
  rw [← p3] at p2
  simp only [← u64_mod] at p1 p2
  have P1 := Lib.hid p1
  have P2 := Lib.hid p2
  clear p1 p2 p3
  cases u
  · go_enter Try.func52, Try.ntmps52
    go_wp2_with fail
    go_ret
    exact ⟨ret_int P2.out.2, by rw [P2.out.1]; exact (H.out.pset_h _ (u32_in _)).alloc _, ((Fr.refl F w).setCell (p := ⟨q, 19, none⟩) (.inr H.out.fq) _).alloc _⟩
  · go_enter Try.func52, Try.ntmps52
    go_wp2_with fail
    go_ret
    exact ⟨ret_int P1.out.2, by rw [P1.out.1]; exact (H.out.pset_h _ (u32_in _)).alloc _, ((Fr.refl F w).setCell (p := ⟨q, 19, none⟩) (.inr H.out.fq) _).alloc _⟩
end
end Go.Proofs.Ytflinbfobadheaa
