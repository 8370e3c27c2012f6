/- The contract of operate. -/
import Derived.Test.YtflinbfobadheaaRisc8
namespace Go.Proofs.Ytflinbfobadheaa
open Go.RowKit Go.Waf
set_option maxRecDepth 100000
set_option linter.unusedVariables false

def OpPost (p : Bool) (w : World) (B q : Nat) (F : Nat → Prop) (cv mv iv ov : Value) (s : St) (o : Option St) (e : Ending) (w' : World) : Prop :=
  e = .returned (.bool o.isSome) ∧ Mach p w' B q F cv mv iv ov (o.getD s) ∧ Fr F w w'
def boxOf (i : Ins) : Array Value := #[.int .i64 i.f, .bool i.u, .bool i.v, .int .i64 i.a, .int .i64 i.b, .int .i64 i.c, .int .i64 i.op, .int .i32 i.imm]
section
variable {w : World} {B q : Nat} {F : Nat → Prop} {cv mv iv ov : Value} {s : St}
theorem op_some {p : Bool} {w' : World} {o : Option St} {s' : St} (ho : o = some s') (hM : Mach p w' B q F cv mv iv ov s') (hF : Fr F w w') : OpPost p w B q F cv mv iv ov s o (.returned (.bool true)) w' := by
  subst ho; exact ⟨rfl, hM, hF⟩
theorem op_none {p : Bool} {w' : World} {o : Option St} (ho : o = none) (hM : Mach p w' B q F cv mv iv ov s) (hF : Fr F w w') : OpPost p w B q F cv mv iv ov s o (.returned (.bool false)) w' := by
  subst ho; exact ⟨rfl, hM, hF⟩
theorem second_in (h : Fit s) (i : Ins) (hc : nib i.c) (hf : i.f = 0 ∨ (i.f = 1 ∧ 0 ≤ i.imm ∧ i.imm < 65536)) : W32 (s.second i) := by
  unfold St.second
  rcases hf with hf | ⟨hf, h0, h1⟩
  · rw [if_neg (by omega)]; exact h.rg _ hc
  · rw [if_pos hf]; split
    · exact u32_in _
    · exact ⟨h0, by omega⟩
theorem Fit.same {s s' : St} (h : Fit s) (hr : s'.r = s.r) (hm : s'.mem = s.mem) (hi : s'.inp = s.inp) (ho : s'.out = s.out) (hk : s'.code = s.code) (hh : W32 s'.h) (hp : s'.pc = s.pc) : Fit s' :=
  ⟨by rw [hr]; exact h.rl, by rw [hr]; exact h.r, by rw [hm]; exact h.ml, by rw [hm]; exact h.m, by rw [hi]; exact h.i, by rw [ho]; exact h.o, by rw [hk]; exact h.k, by rw [hk]; exact h.kl, hh, by rw [hp]; exact h.p0, by rw [hp]; exact h.p1⟩

theorem bits_and_in (x y : Int) : W32 (bits .and .u32 x y) := by
  show W32 (IntKind.u32.wrap _)
  rw [u32_mod]; unfold W32; omega
theorem bits_andNot_in (x y : Int) : W32 (bits .andNot .u32 x y) := by
  show W32 (IntKind.u32.wrap _)
  rw [u32_mod]; unfold W32; omega
theorem bits_or_in (x y : Int) : W32 (bits .or .u32 x y) := by
  show W32 (IntKind.u32.wrap _)
  rw [u32_mod]; unfold W32; omega
theorem bits_xor_in (x y : Int) : W32 (bits .xor .u32 x y) := by
  show W32 (IntKind.u32.wrap _)
  rw [u32_mod]; unfold W32; omega
/-- A block that is newer than the machine's. -/
theorem hnF {w : World} (h : Mach true w B q F cv mv iv ov s) : ¬ F w.heap.size := fun hF => by
  have := (h.fb _ hF).2; omega
set_option maxHeartbeats 12800000 in
theorem operate_any (h : Mach true w B q F cv mv iv ov s) (i : Ins) (ha : nib i.a) (hb : nib i.b) (hc : nib i.c) (hf : i.f = 0 ∨ (i.f = 1 ∧ 0 ≤ i.imm ∧ i.imm < 65536)) (hop : nib i.op) :
    Calls Try.prog 33 #[.pointer (some ⟨q, 0, none⟩), insV i] w (OpPost true w B q F cv mv iv ov s (s.operate i)) := by
  have hS := second_in h.fit i hc hf
  have hB := h.fit.rg i.b hb
  have hql : q < w.heap.size := (h.fb q h.fq).2
  obtain ⟨f, u, v, a, b, c, op, imm⟩ := i
  obtain ⟨an, rfl⟩ := Int.eq_ofNat_of_zero_le ha.1
  obtain ⟨bn, rfl⟩ := Int.eq_ofNat_of_zero_le hb.1
  obtain ⟨cn, rfl⟩ := Int.eq_ofNat_of_zero_le hc.1
  have han : an < 16 := by have := ha.2; simp at this; omega
  have hbn : bn < 16 := by have := hb.2; simp at this; omega
  have hcn : cn < 16 := by have := hc.2; simp at this; omega
  obtain ⟨M, hM⟩ : ∃ M, M = s.second ⟨f, u, v, an, bn, cn, op, imm⟩ := ⟨_, rfl⟩
  obtain ⟨X, hX⟩ : ∃ X, X = s.rg bn := ⟨_, rfl⟩
  have hOP : s.operate ⟨f, u, v, an, bn, cn, op, imm⟩ = (opVal s ⟨f, u, v, an, bn, cn, op, imm⟩ X M).map fun p => p.2.told an p.1 := by rw [hM, hX]; rfl
  rw [hOP]
  have c1 := h.p_r bn hbn
  have c2 := h.p_r cn hcn
  have hX' : s.r.getD bn 0 = X := hX.symm
  rw [hX'] at c1
  obtain ⟨Y, hY⟩ : ∃ Y, s.r.getD cn 0 = Y := ⟨_, rfl⟩
  rw [hY] at c2
  have hM' : M = if f = 1 then (if v then cut32 (imm - 65536) else imm) else Y := by rw [hM, ← hY]; rfl
  rw [← hM] at hS
  have hB' : W32 X := by rw [hX]; exact hB
  simp only at hf hop
  have H := Lib.hid h
  have HM := Lib.hid hM'
  have HS := Lib.hid hS
  have HB := Lib.hid hB'
  clear hM hX hOP hX' hY hM' h hB hB' hS ha hb hc
  simp only [insV]
  go_enter Try.func33, Try.ntmps33
  go_wp2_with fail
  go_quiet (fail)
  go_upto_if 28 with fail
  go_cut [6] (fun y wx => y = .int .u32 M ∧ Mach true wx B q F cv mv iv ov s ∧ Fr F w wx ∧ ∀ j, wx.cell? ⟨w.heap.size, j, none⟩ = (boxOf ⟨f, u, v, an, bn, cn, op, imm⟩)[j]?)
  case first =>
    have hres : Mach true ((w.alloc (.cells (boxOf ⟨f, u, v, an, bn, cn, op, imm⟩) 27)).drewN nq) B q F cv mv iv ov s ∧ Fr F w ((w.alloc (.cells (boxOf ⟨f, u, v, an, bn, cn, op, imm⟩) 27)).drewN nq) ∧ ∀ j, ((w.alloc (.cells (boxOf ⟨f, u, v, an, bn, cn, op, imm⟩) 27)).drewN nq).cell? ⟨w.heap.size, j, none⟩ = (boxOf ⟨f, u, v, an, bn, cn, op, imm⟩)[j]? :=
      ⟨(H.out.alloc _).drewN nq, ((Fr.refl F w).alloc _).drewN nq, fun j => by
        have e : ((w.alloc (.cells (boxOf ⟨f, u, v, an, bn, cn, op, imm⟩) 27)).drewN nq).cell? ⟨w.heap.size, j, none⟩ = (w.alloc (.cells (boxOf ⟨f, u, v, an, bn, cn, op, imm⟩) 27)).cell? ⟨w.heap.size, j, none⟩ := rfl
        rw [e, World.cell?_alloc_new]⟩
    have HR := Lib.hid hres
    clear hres
    rcases hf with rfl | ⟨rfl, hi0, hi1⟩
    · have hm := HM.out
      rw [if_neg (by omega)] at hm
      subst hm
      go_wp2_with fail
      go_meet
      case rel => exact ⟨rfl, HR.out⟩
    · have hm := HM.out
      rw [if_pos rfl] at hm
      cases v with
      | false =>
        simp only [Bool.false_eq_true, if_false] at hm
        subst hm
        go_wp2_with fail
        go_meet
        case rel => exact ⟨rfl, HR.out⟩
      | true =>
        simp only [if_true] at hm
        have HMM := Lib.hid hm
        clear hm
        go_wp2_with fail
        go_meet
        case rel => exact ⟨by rw [HMM.out]; rfl, HR.out⟩
  case rest =>
    obtain ⟨rfl, hMx, hFx, hbox⟩ := hcut
    have d0 : wc.cell? ⟨w.heap.size, 0, none⟩ = some (.int .i64 f) := hbox 0
    have d1 : wc.cell? ⟨w.heap.size, 1, none⟩ = some (.bool u) := hbox 1
    have d2 : wc.cell? ⟨w.heap.size, 2, none⟩ = some (.bool v) := hbox 2
    have d3 : wc.cell? ⟨w.heap.size, 3, none⟩ = some (.int .i64 an) := hbox 3
    have d4 : wc.cell? ⟨w.heap.size, 4, none⟩ = some (.int .i64 bn) := hbox 4
    have d5 : wc.cell? ⟨w.heap.size, 5, none⟩ = some (.int .i64 cn) := hbox 5
    have d6 : wc.cell? ⟨w.heap.size, 6, none⟩ = some (.int .i64 op) := hbox 6
    have d7 : wc.cell? ⟨w.heap.size, 7, none⟩ = some (.int .i32 imm) := hbox 7
    have ch := hMx.p_h
    have fh := hMx.frozen 19
    have hbw := World.block_lt_of_cell? wc _ d0
    obtain ⟨hm0, hm1⟩ := HS.out
    obtain ⟨hx0, hx1⟩ := HB.out
    have HMX := Lib.hid hMx
    have HFX := Lib.hid hFx
    have hh := hMx.fit.h
    clear hbox hMx hFx c1 c2
    unfold nib at hop
    rcases (by omega : op = 0 ∨ op = 1 ∨ op = 2 ∨ op = 3 ∨ op = 4 ∨ op = 5 ∨ op = 6 ∨ op = 7 ∨ op = 8 ∨ op = 9 ∨ op = 10 ∨ op = 11 ∨ (12 ≤ op ∧ op < 16)) with rfl | rfl | rfl | rfl | rfl | rfl | rfl | rfl | rfl | rfl | rfl | rfl | hlast
    · cases u
      · go_wp2_with fail
        refine (ptold_any HMX.out an han (M) (⟨hm0, hm1⟩)).mono ?_; rintro e w5 ⟨rfl, hM5, hF5⟩
        have HR := Lib.hid (op_some (w := w) (s := s) (o := (opVal s ⟨f, false, v, an, bn, cn, 0, imm⟩ X M).map fun p => p.2.told an p.1) (rfl) hM5 (HFX.out.trans hF5 (fun _ _ h => h)))
        clear hM5 hF5
        go_wp2_with fail
        go_ret
        exact HR.out
      · rcases hf with rfl | ⟨rfl, hi0, hi1⟩
        · go_wp2_with fail
          refine (ptold_any HMX.out an han (s.h) (hh)).mono ?_; rintro e w5 ⟨rfl, hM5, hF5⟩
          have HR := Lib.hid (op_some (w := w) (s := s) (o := (opVal s ⟨0, true, v, an, bn, cn, 0, imm⟩ X M).map fun p => p.2.told an p.1) (rfl) hM5 (HFX.out.trans hF5 (fun _ _ h => h)))
          clear hM5 hF5
          go_wp2_with fail
          go_ret
          exact HR.out
        · have e1 : cut32 (imm * 65536) = imm * 65536 := by unfold cut32; omega
          have HRR := Lib.hid (show opVal s ⟨1, true, v, an, bn, cn, 0, imm⟩ X M = some (imm * 65536, s) from by rw [← e1]; rfl)
          clear e1
          go_wp2_with fail
          refine (ptold_any HMX.out an han (imm * 65536) (⟨by omega, by omega⟩)).mono ?_; rintro e w5 ⟨rfl, hM5, hF5⟩
          have HR := Lib.hid (op_some (w := w) (s := s) (o := (opVal s ⟨1, true, v, an, bn, cn, 0, imm⟩ X M).map fun p => p.2.told an p.1) (by rw [HRR.out]; rfl) hM5 (HFX.out.trans hF5 (fun _ _ h => h)))
          clear hM5 hF5
          go_wp2_with fail
          go_ret
          exact HR.out
    · have hC := fun W => lsl_any (wrap32 X) (wrap32 M) W
      obtain ⟨R, hR⟩ : ∃ R, R = wrap32 (wrap32 X * 2 ^ (wrap32 M % 32).toNat) := ⟨_, rfl⟩
      rw [← hR] at hC
      have HC := Lib.hid hC
      have HRR := Lib.hid (show opVal s ⟨f, u, v, an, bn, cn, 1, imm⟩ X M = some (R % 4294967296, s) from by rw [hR]; rfl)
      clear hC hR
      go_wp2_with fail
      refine (HC.out _).mono ?_; rintro e w4 ⟨rfl, rfl⟩
      go_wp2_with fail
      refine (ptold_any HMX.out an han (R % 4294967296) (u32_in R)).mono ?_; rintro e w5 ⟨rfl, hM5, hF5⟩
      have HR := Lib.hid (op_some (w := w) (s := s) (o := (opVal s ⟨f, u, v, an, bn, cn, 1, imm⟩ X M).map fun p => p.2.told an p.1) (by rw [HRR.out]; rfl) hM5 (HFX.out.trans hF5 (fun _ _ h => h)))
      clear hM5 hF5
      go_wp2_with fail
      go_ret
      exact HR.out
    · have hC := fun W => asr_any (wrap32 X) (wrap32 M) W
      obtain ⟨R, hR⟩ : ∃ R, R = wrap32 X / 2 ^ (wrap32 M % 32).toNat := ⟨_, rfl⟩
      rw [← hR] at hC
      have HC := Lib.hid hC
      have HRR := Lib.hid (show opVal s ⟨f, u, v, an, bn, cn, 2, imm⟩ X M = some (R % 4294967296, s) from by rw [hR]; rfl)
      clear hC hR
      go_wp2_with fail
      refine (HC.out _).mono ?_; rintro e w4 ⟨rfl, rfl⟩
      go_wp2_with fail
      refine (ptold_any HMX.out an han (R % 4294967296) (u32_in R)).mono ?_; rintro e w5 ⟨rfl, hM5, hF5⟩
      have HR := Lib.hid (op_some (w := w) (s := s) (o := (opVal s ⟨f, u, v, an, bn, cn, 2, imm⟩ X M).map fun p => p.2.told an p.1) (by rw [HRR.out]; rfl) hM5 (HFX.out.trans hF5 (fun _ _ h => h)))
      clear hM5 hF5
      go_wp2_with fail
      go_ret
      exact HR.out
    · have hC := fun W => ror_any (wrap32 X) (wrap32 M) W
      obtain ⟨R, hR⟩ : ∃ R, R = ror (wrap32 X) (wrap32 M) := ⟨_, rfl⟩
      rw [← hR] at hC
      have HC := Lib.hid hC
      have HRR := Lib.hid (show opVal s ⟨f, u, v, an, bn, cn, 3, imm⟩ X M = some (R % 4294967296, s) from by rw [hR]; rfl)
      clear hC hR
      go_wp2_with fail
      refine (HC.out _).mono ?_; rintro e w4 ⟨rfl, rfl⟩
      go_wp2_with fail
      refine (ptold_any HMX.out an han (R % 4294967296) (u32_in R)).mono ?_; rintro e w5 ⟨rfl, hM5, hF5⟩
      have HR := Lib.hid (op_some (w := w) (s := s) (o := (opVal s ⟨f, u, v, an, bn, cn, 3, imm⟩ X M).map fun p => p.2.told an p.1) (by rw [HRR.out]; rfl) hM5 (HFX.out.trans hF5 (fun _ _ h => h)))
      clear hM5 hF5
      go_wp2_with fail
      go_ret
      exact HR.out
    · go_wp2_with fail
      refine (ptold_any HMX.out an han (bits .and .u32 X M) (bits_and_in X M)).mono ?_; rintro e w5 ⟨rfl, hM5, hF5⟩
      have HR := Lib.hid (op_some (w := w) (s := s) (o := (opVal s ⟨f, u, v, an, bn, cn, 4, imm⟩ X M).map fun p => p.2.told an p.1) (rfl) hM5 (HFX.out.trans hF5 (fun _ _ h => h)))
      clear hM5 hF5
      go_wp2_with fail
      go_ret
      exact HR.out
    · go_wp2_with fail
      refine (ptold_any HMX.out an han (bits .andNot .u32 X M) (bits_andNot_in X M)).mono ?_; rintro e w5 ⟨rfl, hM5, hF5⟩
      have HR := Lib.hid (op_some (w := w) (s := s) (o := (opVal s ⟨f, u, v, an, bn, cn, 5, imm⟩ X M).map fun p => p.2.told an p.1) (rfl) hM5 (HFX.out.trans hF5 (fun _ _ h => h)))
      clear hM5 hF5
      go_wp2_with fail
      go_ret
      exact HR.out
    · go_wp2_with fail
      refine (ptold_any HMX.out an han (bits .or .u32 X M) (bits_or_in X M)).mono ?_; rintro e w5 ⟨rfl, hM5, hF5⟩
      have HR := Lib.hid (op_some (w := w) (s := s) (o := (opVal s ⟨f, u, v, an, bn, cn, 6, imm⟩ X M).map fun p => p.2.told an p.1) (rfl) hM5 (HFX.out.trans hF5 (fun _ _ h => h)))
      clear hM5 hF5
      go_wp2_with fail
      go_ret
      exact HR.out
    · go_wp2_with fail
      refine (ptold_any HMX.out an han (bits .xor .u32 X M) (bits_xor_in X M)).mono ?_; rintro e w5 ⟨rfl, hM5, hF5⟩
      have HR := Lib.hid (op_some (w := w) (s := s) (o := (opVal s ⟨f, u, v, an, bn, cn, 7, imm⟩ X M).map fun p => p.2.told an p.1) (rfl) hM5 (HFX.out.trans hF5 (fun _ _ h => h)))
      clear hM5 hF5
      go_wp2_with fail
      go_ret
      exact HR.out
    · have hC := sum8_any HMX.out ⟨f, u, v, an, bn, cn, 8, imm⟩ rfl X M ⟨hx0, hx1⟩ ⟨hm0, hm1⟩
      simp only [insV] at hC
      have HC := Lib.hid hC
      clear hC
      go_wp2_with fail
      refine HC.out.mono ?_; rintro e w4 ⟨rfl, hM4, hF4⟩
      have e3 : w4.cell? ⟨w.heap.size, 3, none⟩ = some (.int .i64 an) := by rw [hF4.cell hbw (hnF H.out)]; exact d3
      have HM4 := Lib.hid hM4
      have HF4 := Lib.hid (HFX.out.trans hF4 (fun _ _ h => h))
      clear hM4 hF4
      go_wp2_with fail
      refine (ptold_any HM4.out an han (cut32 (X + M + s.carry ⟨f, u, v, an, bn, cn, 8, imm⟩)) (u32_in _)).mono ?_; rintro e w5 ⟨rfl, hM5, hF5⟩
      have HR := Lib.hid (op_some (w := w) (s := s) (o := (opVal s ⟨f, u, v, an, bn, cn, 8, imm⟩ X M).map fun p => p.2.told an p.1) (rfl) hM5 (HF4.out.trans hF5 (fun _ _ h => h)))
      clear hM5 hF5
      go_wp2_with fail
      go_ret
      exact HR.out
    · have hC := sum9_any HMX.out ⟨f, u, v, an, bn, cn, 9, imm⟩ rfl X M ⟨hx0, hx1⟩ ⟨hm0, hm1⟩
      simp only [insV] at hC
      have HC := Lib.hid hC
      clear hC
      go_wp2_with fail
      refine HC.out.mono ?_; rintro e w4 ⟨rfl, hM4, hF4⟩
      have e3 : w4.cell? ⟨w.heap.size, 3, none⟩ = some (.int .i64 an) := by rw [hF4.cell hbw (hnF H.out)]; exact d3
      have HM4 := Lib.hid hM4
      have HF4 := Lib.hid (HFX.out.trans hF4 (fun _ _ h => h))
      clear hM4 hF4
      go_wp2_with fail
      refine (ptold_any HM4.out an han (cut32 (X - M - s.carry ⟨f, u, v, an, bn, cn, 9, imm⟩)) (u32_in _)).mono ?_; rintro e w5 ⟨rfl, hM5, hF5⟩
      have HR := Lib.hid (op_some (w := w) (s := s) (o := (opVal s ⟨f, u, v, an, bn, cn, 9, imm⟩ X M).map fun p => p.2.told an p.1) (rfl) hM5 (HF4.out.trans hF5 (fun _ _ h => h)))
      clear hM5 hF5
      go_wp2_with fail
      go_ret
      exact HR.out
    · cases u
      · have hC := product_any HMX.out ⟨f, false, v, an, bn, cn, 10, imm⟩ X M ⟨hx0, hx1⟩ ⟨hm0, hm1⟩
        simp only [insV, if_false, Bool.false_eq_true] at hC
        obtain ⟨R, hR⟩ : ∃ R, R = cut32 (wrap32 X * wrap32 M) := ⟨_, rfl⟩
        obtain ⟨R2, hR2⟩ : ∃ R2, R2 = cut32 ((wrap32 X * wrap32 M) / 4294967296) := ⟨_, rfl⟩
        have wR : W32 R := by rw [hR]; exact u32_in _
        have HRR := Lib.hid (show opVal s ⟨f, false, v, an, bn, cn, 10, imm⟩ X M = some (R, { s with h := R2 }) from by rw [hR, hR2]; rfl)
        rw [← hR, ← hR2] at hC
        have HC := Lib.hid hC
        clear hC hR hR2
        go_wp2_with fail
        refine HC.out.mono ?_; rintro e w4 ⟨rfl, hM4, hF4⟩
        have e3 : w4.cell? ⟨w.heap.size, 3, none⟩ = some (.int .i64 an) := by rw [hF4.cell hbw (hnF H.out)]; exact d3
        have HM4 := Lib.hid hM4
        have HF4 := Lib.hid (HFX.out.trans hF4 (fun _ _ h => h))
        clear hM4 hF4
        go_wp2_with fail
        refine (ptold_any HM4.out an han (R) (wR)).mono ?_; rintro e w5 ⟨rfl, hM5, hF5⟩
        have HR := Lib.hid (op_some (w := w) (s := s) (o := (opVal s ⟨f, false, v, an, bn, cn, 10, imm⟩ X M).map fun p => p.2.told an p.1) (by rw [HRR.out]; rfl) hM5 (HF4.out.trans hF5 (fun _ _ h => h)))
        clear hM5 hF5
        go_wp2_with fail
        go_ret
        exact HR.out
      · have hC := product_any HMX.out ⟨f, true, v, an, bn, cn, 10, imm⟩ X M ⟨hx0, hx1⟩ ⟨hm0, hm1⟩
        simp only [insV, if_true] at hC
        obtain ⟨R, hR⟩ : ∃ R, R = cut32 (X * M) := ⟨_, rfl⟩
        obtain ⟨R2, hR2⟩ : ∃ R2, R2 = cut32 ((X * M) / 4294967296) := ⟨_, rfl⟩
        have wR : W32 R := by rw [hR]; exact u32_in _
        have HRR := Lib.hid (show opVal s ⟨f, true, v, an, bn, cn, 10, imm⟩ X M = some (R, { s with h := R2 }) from by rw [hR, hR2]; rfl)
        rw [← hR, ← hR2] at hC
        have HC := Lib.hid hC
        clear hC hR hR2
        go_wp2_with fail
        refine HC.out.mono ?_; rintro e w4 ⟨rfl, hM4, hF4⟩
        have e3 : w4.cell? ⟨w.heap.size, 3, none⟩ = some (.int .i64 an) := by rw [hF4.cell hbw (hnF H.out)]; exact d3
        have HM4 := Lib.hid hM4
        have HF4 := Lib.hid (HFX.out.trans hF4 (fun _ _ h => h))
        clear hM4 hF4
        go_wp2_with fail
        refine (ptold_any HM4.out an han (R) (wR)).mono ?_; rintro e w5 ⟨rfl, hM5, hF5⟩
        have HR := Lib.hid (op_some (w := w) (s := s) (o := (opVal s ⟨f, true, v, an, bn, cn, 10, imm⟩ X M).map fun p => p.2.told an p.1) (by rw [HRR.out]; rfl) hM5 (HF4.out.trans hF5 (fun _ _ h => h)))
        clear hM5 hF5
        go_wp2_with fail
        go_ret
        exact HR.out
    · by_cases h1 : 1 ≤ wrap32 M
      · have HD := Lib.hid (fun W => div_yes (wrap32 X) (wrap32 M) W h1 (wrap32_in' X).1 (wrap32_in' X).2)
        have HO := Lib.hid (fun W => mod_yes (wrap32 X) (wrap32 M) W h1 (wrap32_in' M).2)
        have H1 := Lib.hid h1
        clear h1
        go_wp2_with fail
        refine (HD.out _).mono ?_; rintro e w4 ⟨rfl, rfl⟩
        go_wp2_with fail
        refine (HO.out _).mono ?_; rintro e w4 ⟨rfl, rfl⟩
        have HM4 := Lib.hid (HMX.out.pset_h (cut32 (wrap32 X % wrap32 M)) (u32_in _))
        have HF4 := Lib.hid (HFX.out.setCell (p := ⟨q, 19, none⟩) (.inr H.out.fq) (.int .u32 (cut32 (wrap32 X % wrap32 M))))
        go_wp2_with fail
        refine (ptold_any HM4.out an han (cut32 (wrap32 X / wrap32 M)) (u32_in _)).mono ?_; rintro e w5 ⟨rfl, hM5, hF5⟩
        have HR := Lib.hid (op_some (w := w) (s := s) (o := (opVal s ⟨f, u, v, an, bn, cn, 11, imm⟩ X M).map fun p => p.2.told an p.1) (by simp [opVal, H1.out]) hM5 (HF4.out.trans hF5 (fun _ _ h => h)))
        clear hM5 hF5
        go_wp2_with fail
        go_ret
        exact HR.out
      · have HD := Lib.hid (fun W => div_no (wrap32 X) (wrap32 M) W (by omega))
        have H1 := Lib.hid h1
        clear h1
        go_wp2_with fail
        refine (HD.out _).mono ?_; rintro e w4 ⟨rfl, rfl⟩
        go_wp2_with fail
        go_ret
        exact op_none (by simp [opVal, H1.out]) HMX.out HFX.out
    · have hz : (opVal s ⟨f, u, v, an, bn, cn, op, imm⟩ X M).map (fun p => p.2.told an p.1) = none := by
        unfold opVal
        simp only [show ¬ op = 0 by omega, show ¬ op = 1 by omega, show ¬ op = 2 by omega, show ¬ op = 3 by omega, show ¬ op = 4 by omega, show ¬ op = 5 by omega, show ¬ op = 6 by omega, show ¬ op = 7 by omega, show ¬ op = 8 by omega, show ¬ op = 9 by omega, show ¬ op = 10 by omega, show ¬ op = 11 by omega, if_false]
        rfl
      have HZ := Lib.hid hz
      have q0 : (op == 0) = false := by simp; omega
      have q1 : (op == 1) = false := by simp; omega
      have q2 : (op == 2) = false := by simp; omega
      have q3 : (op == 3) = false := by simp; omega
      have q4 : (op == 4) = false := by simp; omega
      have q5 : (op == 5) = false := by simp; omega
      have q6 : (op == 6) = false := by simp; omega
      have q7 : (op == 7) = false := by simp; omega
      have q8 : (op == 8) = false := by simp; omega
      have q9 : (op == 9) = false := by simp; omega
      have q10 : (op == 10) = false := by simp; omega
      have q11 : (op == 11) = false := by simp; omega
      clear hz hlast
      go_wp2_with fail
      go_ret
      exact op_none HZ.out HMX.out HFX.out
end
end Go.Proofs.Ytflinbfobadheaa
