/- The contract of the reference's register. -/
import Derived.Test.YtflinbfobadheaaRisc9
namespace Go.Proofs.Ytflinbfobadheaa
open Go.RowKit Go.Waf
set_option maxRecDepth 100000
set_option linter.unusedVariables false

section
variable {w : World} {B q : Nat} {F : Nat → Prop} {cv mv iv ov : Value} {s : St}
theorem rhnF {w : World} (h : Mach false w B q F cv mv iv ov s) : ¬ F w.heap.size := fun hF => by
  have := (h.fb _ hF).2; omega
set_option maxHeartbeats 12800000 in
theorem register_any (h : Mach false w B q F cv mv iv ov s) (i : Ins) (ha : nib i.a) (hb : nib i.b) (hc : nib i.c) (hf : i.f = 0 ∨ (i.f = 1 ∧ 0 ≤ i.imm ∧ i.imm < 65536)) (hop : nib i.op) :
    Calls Try.prog 41 #[.pointer (some ⟨q, 0, none⟩), insV i] w (OpPost false w B q F cv mv iv ov s (s.operate i)) := by
  have hS := second_in h.fit i hc hf
  have hB := h.fit.rg i.b hb
  have hql : q < w.heap.size := (h.fb q h.fq).2
  obtain ⟨f, u, v, a, b, c, op, imm⟩ := i
  obtain ⟨an, rfl⟩ := Int.eq_ofNat_of_zero_le ha.1
  obtain ⟨bn, rfl⟩ := Int.eq_ofNat_of_zero_le hb.1
  obtain ⟨cn, rfl⟩ := Int.eq_ofNat_of_zero_le hc.1
  have han : an < 16 := by have := ha.2; simp at this; omega
  have hbn : bn < 16 := by have := hb.2; simp at this; omega
  have hcn : cn < 16 := by have := hc.2; simp at this; omega
  obtain ⟨M, hM⟩ : ∃ M, M = s.second ⟨f, u, v, an, bn, cn, op, imm⟩ := ⟨_, rfl⟩
  obtain ⟨X, hX⟩ : ∃ X, X = s.rg bn := ⟨_, rfl⟩
  have hOP : s.operate ⟨f, u, v, an, bn, cn, op, imm⟩ = (opVal s ⟨f, u, v, an, bn, cn, op, imm⟩ X M).map fun p => p.2.told an p.1 := by rw [hM, hX]; rfl
  rw [hOP]
  have c1 := h.r_r bn hbn
  have c2 := h.r_r cn hcn
  have hX' : s.r.getD bn 0 = X := hX.symm
  rw [hX'] at c1
  obtain ⟨Y, hY⟩ : ∃ Y, s.r.getD cn 0 = Y := ⟨_, rfl⟩
  rw [hY] at c2
  have hM' : M = if f = 1 then (if v then cut32 (imm - 65536) else imm) else Y := by rw [hM, ← hY]; rfl
  rw [← hM] at hS
  have hB' : W32 X := by rw [hX]; exact hB
  simp only at hf hop
  obtain ⟨C, hC⟩ : ∃ C, C = s.c := ⟨_, rfl⟩
  obtain ⟨k, hk⟩ : ∃ k, k = s.carry ⟨f, u, v, an, bn, cn, op, imm⟩ := ⟨_, rfl⟩
  have hk' : k = if u && C then 1 else 0 := by rw [hk, hC]; rfl
  have hk0 : 0 ≤ k := by rw [hk']; split <;> omega
  have hk1 : k ≤ 1 := by rw [hk']; split <;> omega
  have H := Lib.hid h
  have HM := Lib.hid hM'
  have HS := Lib.hid hS
  have HB := Lib.hid hB'
  have HK := Lib.hid hk'
  have HKS := Lib.hid hk
  have HCC := Lib.hid hC
  clear hM hX hOP hX' hY hM' h hB hB' hS ha hb hc hk' hk hC
  simp only [insV]
  go_enter Try.func41, Try.ntmps41
  go_wp2_with fail
  go_quiet (fail)
  go_wp2_with fail
  go_quiet (fail)
  go_upto_if 35 with fail
  go_cut [6] (fun y wx => y = .int .u32 M ∧ Mach false wx B q F cv mv iv ov s ∧ Fr F w wx ∧ ∀ j, wx.cell? ⟨w.heap.size, j, none⟩ = (boxOf ⟨f, u, v, an, bn, cn, op, imm⟩)[j]?)
  case first =>
    have hres : ∀ m, Mach false ((w.alloc (.cells (boxOf ⟨f, u, v, an, bn, cn, op, imm⟩) 27)).drewN m) B q F cv mv iv ov s ∧ Fr F w ((w.alloc (.cells (boxOf ⟨f, u, v, an, bn, cn, op, imm⟩) 27)).drewN m) ∧ ∀ j, ((w.alloc (.cells (boxOf ⟨f, u, v, an, bn, cn, op, imm⟩) 27)).drewN m).cell? ⟨w.heap.size, j, none⟩ = (boxOf ⟨f, u, v, an, bn, cn, op, imm⟩)[j]? := fun m =>
      ⟨(H.out.alloc _).drewN m, ((Fr.refl F w).alloc _).drewN m, fun j => by
        have e : ((w.alloc (.cells (boxOf ⟨f, u, v, an, bn, cn, op, imm⟩) 27)).drewN m).cell? ⟨w.heap.size, j, none⟩ = (w.alloc (.cells (boxOf ⟨f, u, v, an, bn, cn, op, imm⟩) 27)).cell? ⟨w.heap.size, j, none⟩ := rfl
        rw [e, World.cell?_alloc_new]⟩
    have HR := Lib.hid hres
    clear hres
    rcases hf with rfl | ⟨rfl, hi0, hi1⟩
    · have hm := HM.out
      rw [if_neg (by omega)] at hm
      subst hm
      go_wp2_with fail
      go_meet
      case rel => exact ⟨rfl, HR.out _⟩
    · have hm := HM.out
      rw [if_pos rfl] at hm
      cases v with
      | false =>
        simp only [Bool.false_eq_true, if_false] at hm
        subst hm
        go_wp2_with fail
        go_meet
        case rel => exact ⟨rfl, HR.out _⟩
      | true =>
        simp only [if_true] at hm
        have HMM := Lib.hid hm
        clear hm
        go_wp2_with fail
        go_meet
        case rel => exact ⟨by rw [HMM.out]; rfl, HR.out _⟩
  case rest =>
    obtain ⟨rfl, hMx, hFx, hbox⟩ := hcut
    obtain ⟨wd, hwd⟩ : ∃ wd : World, wd = wc := ⟨_, rfl⟩
    subst hwd
    have d0 : wd.cell? ⟨w.heap.size, 0, none⟩ = some (.int .i64 f) := hbox 0
    have d1 : wd.cell? ⟨w.heap.size, 1, none⟩ = some (.bool u) := hbox 1
    have d3 : wd.cell? ⟨w.heap.size, 3, none⟩ = some (.int .i64 an) := hbox 3
    have d6 : wd.cell? ⟨w.heap.size, 6, none⟩ = some (.int .i64 op) := hbox 6
    have d7 : wd.cell? ⟨w.heap.size, 7, none⟩ = some (.int .i32 imm) := hbox 7
    have ch := hMx.r_h
    have fh := hMx.frozen 18
    have cc := hMx.r_c
    have fc := hMx.frozen 21
    have cvv := hMx.r_v
    have fv := hMx.frozen 22
    rw [← HCC.out] at cc
    have hbw := World.block_lt_of_cell? wd _ d0
    obtain ⟨hm0, hm1⟩ := HS.out
    obtain ⟨hx0, hx1⟩ := HB.out
    have HMX := Lib.hid hMx
    have HFX := Lib.hid hFx
    have hh := hMx.fit.h
    clear hbox hMx hFx c1 c2
    unfold nib at hop
    go_upto_region 10 with fail
    go_cut [54] (fun y wx => y = .bool (u && C) ∧ wx = wd)
    case first =>
      cases u <;> cases C
      all_goals
        go_wp2_with fail
        go_meet
        case rel => exact ⟨rfl, rfl⟩
    case rest =>
    obtain ⟨rfl, hwc⟩ := hcut
    rw [hwc]
    clear hwc
    go_upto_if 54 with fail
    go_cut [10] (fun y wx => y = .int .u64 k ∧ wx = wd)
    case first =>
      have hkk := HK.out
      cases hz : (u && C)
      · rw [hz] at hkk
        obtain rfl : k = 0 := by simpa using hkk
        clear hkk
        go_wp2_with fail
        go_meet
        case rel => exact ⟨rfl, rfl⟩
      · rw [hz] at hkk
        obtain rfl : k = 1 := by simpa using hkk
        clear hkk
        go_wp2_with fail
        go_meet
        case rel => exact ⟨rfl, rfl⟩
    case rest =>
    obtain ⟨rfl, hwc⟩ := hcut
    rw [hwc]
    clear hwc
    obtain ⟨y1, y2⟩ := wrap32_in' X
    obtain ⟨y3, y4⟩ := wrap32_in' M
    obtain ⟨P, hP⟩ : ∃ P, wrap32 X = P := ⟨_, rfl⟩
    obtain ⟨Q, hQ⟩ : ∃ Q, wrap32 M = Q := ⟨_, rfl⟩
    rw [hP] at y1 y2
    rw [hQ] at y3 y4
    have HP := Lib.hid hP
    have HQ := Lib.hid hQ
    rcases (by omega : op = 0 ∨ op = 1 ∨ op = 2 ∨ op = 3 ∨ op = 4 ∨ op = 5 ∨ op = 6 ∨ op = 7 ∨ op = 8 ∨ op = 9 ∨ op = 10 ∨ op = 11 ∨ (12 ≤ op ∧ op < 16)) with rfl | rfl | rfl | rfl | rfl | rfl | rfl | rfl | rfl | rfl | rfl | rfl | hlast
    · as_aux_lemma =>
      clear hP hQ
      cases u
      · go_wp2_with fail
        refine (rtold_any HMX.out an han (M) (⟨hm0, hm1⟩)).mono ?_; rintro e w5 ⟨rfl, hM5, hF5⟩
        have HR := Lib.hid (op_some (w := w) (s := s) (o := (opVal s ⟨f, false, v, an, bn, cn, 0, imm⟩ X M).map fun p => p.2.told an p.1) (rfl) hM5 (HFX.out.trans hF5 (fun _ _ h => h)))
        clear hM5 hF5
        go_wp2_with fail
        go_ret
        exact HR.out
      · rcases hf with rfl | ⟨rfl, hi0, hi1⟩
        · go_wp2_with fail
          refine (rtold_any HMX.out an han (s.h) (hh)).mono ?_; rintro e w5 ⟨rfl, hM5, hF5⟩
          have HR := Lib.hid (op_some (w := w) (s := s) (o := (opVal s ⟨0, true, v, an, bn, cn, 0, imm⟩ X M).map fun p => p.2.told an p.1) (rfl) hM5 (HFX.out.trans hF5 (fun _ _ h => h)))
          clear hM5 hF5
          go_wp2_with fail
          go_ret
          exact HR.out
        · have e1 : cut32 (imm * 65536) = imm * 65536 := by unfold cut32; omega
          have HRR := Lib.hid (show opVal s ⟨1, true, v, an, bn, cn, 0, imm⟩ X M = some (imm * 65536, s) from by rw [← e1]; rfl)
          clear e1
          go_wp2_with fail
          refine (rtold_any HMX.out an han (imm * 65536) (⟨by omega, by omega⟩)).mono ?_; rintro e w5 ⟨rfl, hM5, hF5⟩
          have HR := Lib.hid (op_some (w := w) (s := s) (o := (opVal s ⟨1, true, v, an, bn, cn, 0, imm⟩ X M).map fun p => p.2.told an p.1) (by rw [HRR.out]; rfl) hM5 (HFX.out.trans hF5 (fun _ _ h => h)))
          clear hM5 hF5
          go_wp2_with fail
          go_ret
          exact HR.out
    · as_aux_lemma =>
      have hC := fun W => rlsl_any (wrap32 X) (wrap32 M) W
      obtain ⟨R, hR⟩ : ∃ R, R = wrap32 (wrap32 X * 2 ^ (wrap32 M % 32).toNat) := ⟨_, rfl⟩
      rw [← hR, hP, hQ] at hC
      have HC := Lib.hid hC
      have HRR := Lib.hid (show opVal s ⟨f, u, v, an, bn, cn, 1, imm⟩ X M = some (R % 4294967296, s) from by rw [hR]; rfl)
      clear hC hR
      go_wp2_with fail
      refine (HC.out _).mono ?_; rintro e w4 ⟨rfl, rfl⟩
      go_wp2_with fail
      refine (rtold_any HMX.out an han (R % 4294967296) (u32_in R)).mono ?_; rintro e w5 ⟨rfl, hM5, hF5⟩
      have HR := Lib.hid (op_some (w := w) (s := s) (o := (opVal s ⟨f, u, v, an, bn, cn, 1, imm⟩ X M).map fun p => p.2.told an p.1) (by rw [HRR.out]; rfl) hM5 (HFX.out.trans hF5 (fun _ _ h => h)))
      clear hM5 hF5
      go_wp2_with fail
      go_ret
      exact HR.out
    · as_aux_lemma =>
      have hC := fun W => rasr_any (wrap32 X) (wrap32 M) W
      obtain ⟨R, hR⟩ : ∃ R, R = wrap32 X / 2 ^ (wrap32 M % 32).toNat := ⟨_, rfl⟩
      rw [← hR, hP, hQ] at hC
      have HC := Lib.hid hC
      have HRR := Lib.hid (show opVal s ⟨f, u, v, an, bn, cn, 2, imm⟩ X M = some (R % 4294967296, s) from by rw [hR]; rfl)
      clear hC hR
      go_wp2_with fail
      refine (HC.out _).mono ?_; rintro e w4 ⟨rfl, rfl⟩
      go_wp2_with fail
      refine (rtold_any HMX.out an han (R % 4294967296) (u32_in R)).mono ?_; rintro e w5 ⟨rfl, hM5, hF5⟩
      have HR := Lib.hid (op_some (w := w) (s := s) (o := (opVal s ⟨f, u, v, an, bn, cn, 2, imm⟩ X M).map fun p => p.2.told an p.1) (by rw [HRR.out]; rfl) hM5 (HFX.out.trans hF5 (fun _ _ h => h)))
      clear hM5 hF5
      go_wp2_with fail
      go_ret
      exact HR.out
    · as_aux_lemma =>
      have hC := fun W => rror_any (wrap32 X) (wrap32 M) W
      obtain ⟨R, hR⟩ : ∃ R, R = ror (wrap32 X) (wrap32 M) := ⟨_, rfl⟩
      rw [← hR, hP, hQ] at hC
      have HC := Lib.hid hC
      have HRR := Lib.hid (show opVal s ⟨f, u, v, an, bn, cn, 3, imm⟩ X M = some (R % 4294967296, s) from by rw [hR]; rfl)
      clear hC hR
      go_wp2_with fail
      refine (HC.out _).mono ?_; rintro e w4 ⟨rfl, rfl⟩
      go_wp2_with fail
      refine (rtold_any HMX.out an han (R % 4294967296) (u32_in R)).mono ?_; rintro e w5 ⟨rfl, hM5, hF5⟩
      have HR := Lib.hid (op_some (w := w) (s := s) (o := (opVal s ⟨f, u, v, an, bn, cn, 3, imm⟩ X M).map fun p => p.2.told an p.1) (by rw [HRR.out]; rfl) hM5 (HFX.out.trans hF5 (fun _ _ h => h)))
      clear hM5 hF5
      go_wp2_with fail
      go_ret
      exact HR.out
    · as_aux_lemma =>
      clear hP hQ
      go_wp2_with fail
      refine (rtold_any HMX.out an han (bits .and .u32 X M) (bits_and_in X M)).mono ?_; rintro e w5 ⟨rfl, hM5, hF5⟩
      have HR := Lib.hid (op_some (w := w) (s := s) (o := (opVal s ⟨f, u, v, an, bn, cn, 4, imm⟩ X M).map fun p => p.2.told an p.1) (rfl) hM5 (HFX.out.trans hF5 (fun _ _ h => h)))
      clear hM5 hF5
      go_wp2_with fail
      go_ret
      exact HR.out
    · as_aux_lemma =>
      clear hP hQ
      go_wp2_with fail
      refine (rtold_any HMX.out an han (bits .andNot .u32 X M) (bits_andNot_in X M)).mono ?_; rintro e w5 ⟨rfl, hM5, hF5⟩
      have HR := Lib.hid (op_some (w := w) (s := s) (o := (opVal s ⟨f, u, v, an, bn, cn, 5, imm⟩ X M).map fun p => p.2.told an p.1) (rfl) hM5 (HFX.out.trans hF5 (fun _ _ h => h)))
      clear hM5 hF5
      go_wp2_with fail
      go_ret
      exact HR.out
    · as_aux_lemma =>
      clear hP hQ
      go_wp2_with fail
      refine (rtold_any HMX.out an han (bits .or .u32 X M) (bits_or_in X M)).mono ?_; rintro e w5 ⟨rfl, hM5, hF5⟩
      have HR := Lib.hid (op_some (w := w) (s := s) (o := (opVal s ⟨f, u, v, an, bn, cn, 6, imm⟩ X M).map fun p => p.2.told an p.1) (rfl) hM5 (HFX.out.trans hF5 (fun _ _ h => h)))
      clear hM5 hF5
      go_wp2_with fail
      go_ret
      exact HR.out
    · as_aux_lemma =>
      clear hP hQ
      go_wp2_with fail
      refine (rtold_any HMX.out an han (bits .xor .u32 X M) (bits_xor_in X M)).mono ?_; rintro e w5 ⟨rfl, hM5, hF5⟩
      have HR := Lib.hid (op_some (w := w) (s := s) (o := (opVal s ⟨f, u, v, an, bn, cn, 7, imm⟩ X M).map fun p => p.2.told an p.1) (rfl) hM5 (HFX.out.trans hF5 (fun _ _ h => h)))
      clear hM5 hF5
      go_wp2_with fail
      go_ret
      exact HR.out
    · as_aux_lemma =>
      have hT : wrap64 (wrap32 (P + Q + k)) = wrap32 (P + Q + k) := IntWalk.wrap64_in _ (by have := wrap32_in' (P + Q + k); omega)
      have HRR := Lib.hid (show opVal s ⟨f, u, v, an, bn, cn, 8, imm⟩ X M = some ((X + M + k) % 4294967296, { s with c := decide (4294967296 ≤ X + M + k), v := over (P + Q + k) }) from by rw [← HP.out, ← HQ.out, HKS.out]; rfl)
      have e1 : ((X + M + k) / 4294967296 != 0) = decide (4294967296 ≤ X + M + k) := by
        rw [Bool.eq_iff_iff, bne_iff_ne, decide_eq_true_eq]; omega
      have HM4 := Lib.hid ((HMX.out.rset_c (decide (4294967296 ≤ X + M + k))).rset_v (over (P + Q + k)))
      have HF4 := Lib.hid ((HFX.out.setCell (p := ⟨q, 21, none⟩) (.inr H.out.fq) (.bool (decide (4294967296 ≤ X + M + k)))).setCell (p := ⟨q, 22, none⟩) (.inr H.out.fq) (.bool (over (P + Q + k))))
      have eo : (P + Q + k != wrap32 (P + Q + k)) = over (P + Q + k) := rfl
      have hqb : q ≠ w.heap.size := by omega
      go_wp2_with fail
      refine (rtold_any HM4.out an han ((X + M + k) % 4294967296) (u32_in _)).mono ?_; rintro e w5 ⟨rfl, hM5, hF5⟩
      have HR := Lib.hid (op_some (w := w) (s := s) (o := (opVal s ⟨f, u, v, an, bn, cn, 8, imm⟩ X M).map fun p => p.2.told an p.1) (by rw [HRR.out]; rfl) hM5 (HF4.out.trans hF5 (fun _ _ h => h)))
      clear hM5 hF5
      go_wp2_with fail
      go_ret
      exact HR.out
    · as_aux_lemma =>
      have hT : wrap64 (wrap32 (P - Q - k)) = wrap32 (P - Q - k) := IntWalk.wrap64_in _ (by have := wrap32_in' (P - Q - k); omega)
      have HRR := Lib.hid (show opVal s ⟨f, u, v, an, bn, cn, 9, imm⟩ X M = some ((X - M - k) % 4294967296, { s with c := decide (X < M + k), v := over (P - Q - k) }) from by rw [← HP.out, ← HQ.out, HKS.out]; rfl)
      have HM4 := Lib.hid ((HMX.out.rset_c (decide (X < M + k))).rset_v (over (P - Q - k)))
      have HF4 := Lib.hid ((HFX.out.setCell (p := ⟨q, 21, none⟩) (.inr H.out.fq) (.bool (decide (X < M + k)))).setCell (p := ⟨q, 22, none⟩) (.inr H.out.fq) (.bool (over (P - Q - k))))
      have eo : (P - Q - k != wrap32 (P - Q - k)) = over (P - Q - k) := rfl
      have hqb : q ≠ w.heap.size := by omega
      go_wp2_with fail
      refine (rtold_any HM4.out an han ((X - M - k) % 4294967296) (u32_in _)).mono ?_; rintro e w5 ⟨rfl, hM5, hF5⟩
      have HR := Lib.hid (op_some (w := w) (s := s) (o := (opVal s ⟨f, u, v, an, bn, cn, 9, imm⟩ X M).map fun p => p.2.told an p.1) (by rw [HRR.out]; rfl) hM5 (HF4.out.trans hF5 (fun _ _ h => h)))
      clear hM5 hF5
      go_wp2_with fail
      go_ret
      exact HR.out
    · as_aux_lemma =>
      have p1 := mul_u (X * M)
      have p2 := mul_u (P * Q)
      have p3 := mul_s (P * Q)
      rw [← p3] at p2
      simp only [← u64_mod] at p1 p2
      obtain ⟨p11, p12⟩ := p1
      obtain ⟨p21, p22⟩ := p2
      have hqb : q ≠ w.heap.size := by omega
      clear p3
      cases u
      · have HRR := Lib.hid (show opVal s ⟨f, false, v, an, bn, cn, 10, imm⟩ X M = some (cut32 (P * Q), { s with h := cut32 ((P * Q) / 4294967296) }) from by rw [← HP.out, ← HQ.out]; rfl)
        have HM4 := Lib.hid (HMX.out.rset_h (cut32 ((P * Q) / 4294967296)) (u32_in _))
        have HF4 := Lib.hid (HFX.out.setCell (p := ⟨q, 18, none⟩) (.inr H.out.fq) (.int .u32 (cut32 ((P * Q) / 4294967296))))
        clear p11 p12
        go_wp2_with fail
        refine (rtold_any HM4.out an han (cut32 (P * Q)) (u32_in _)).mono ?_; rintro e w5 ⟨rfl, hM5, hF5⟩
        have HR := Lib.hid (op_some (w := w) (s := s) (o := (opVal s ⟨f, false, v, an, bn, cn, 10, imm⟩ X M).map fun p => p.2.told an p.1) (by rw [HRR.out]; rfl) hM5 (HF4.out.trans hF5 (fun _ _ h => h)))
        clear hM5 hF5
        go_wp2_with fail
        go_ret
        exact HR.out
      · have HRR := Lib.hid (show opVal s ⟨f, true, v, an, bn, cn, 10, imm⟩ X M = some (cut32 (X * M), { s with h := cut32 ((X * M) / 4294967296) }) from by rfl)
        have HM4 := Lib.hid (HMX.out.rset_h (cut32 ((X * M) / 4294967296)) (u32_in _))
        have HF4 := Lib.hid (HFX.out.setCell (p := ⟨q, 18, none⟩) (.inr H.out.fq) (.int .u32 (cut32 ((X * M) / 4294967296))))
        clear p21 p22
        go_wp2_with fail
        refine (rtold_any HM4.out an han (cut32 (X * M)) (u32_in _)).mono ?_; rintro e w5 ⟨rfl, hM5, hF5⟩
        have HR := Lib.hid (op_some (w := w) (s := s) (o := (opVal s ⟨f, true, v, an, bn, cn, 10, imm⟩ X M).map fun p => p.2.told an p.1) (by rw [HRR.out]; rfl) hM5 (HF4.out.trans hF5 (fun _ _ h => h)))
        clear hM5 hF5
        go_wp2_with fail
        go_ret
        exact HR.out
    · as_aux_lemma =>
      have hqb : q ≠ w.heap.size := by omega
      by_cases h1 : 1 ≤ Q
      · have HD := Lib.hid (fun W => rdiv_yes P Q W h1 y1 y2 y4)
        have HO := Lib.hid (fun W => rmod_yes P Q W h1 y4 y1 y2)
        have HRR := Lib.hid (show opVal s ⟨f, u, v, an, bn, cn, 11, imm⟩ X M = some (cut32 (P / Q), { s with h := cut32 (P % Q) }) from by rw [← HP.out, ← HQ.out]; simp [opVal, show 1 ≤ wrap32 M from by rw [HQ.out]; exact h1])
        have HM4 := Lib.hid (HMX.out.rset_h (cut32 (P % Q)) (u32_in _))
        have HF4 := Lib.hid (HFX.out.setCell (p := ⟨q, 18, none⟩) (.inr H.out.fq) (.int .u32 (cut32 (P % Q))))
        have e1 : P / Q % 4294967296 = cut32 (P / Q) := rfl
        have e2 : P % Q % 4294967296 = cut32 (P % Q) := rfl
        clear h1
        go_wp2_with fail
        refine (HD.out _).mono ?_; rintro e w4 ⟨rfl, rfl⟩
        go_wp2_with fail
        refine (HO.out _).mono ?_; rintro e w4 ⟨rfl, rfl⟩
        go_wp2_with fail
        refine (rtold_any HM4.out an han (cut32 (P / Q)) (u32_in _)).mono ?_; rintro e w5 ⟨rfl, hM5, hF5⟩
        have HR := Lib.hid (op_some (w := w) (s := s) (o := (opVal s ⟨f, u, v, an, bn, cn, 11, imm⟩ X M).map fun p => p.2.told an p.1) (by rw [HRR.out]; rfl) hM5 (HF4.out.trans hF5 (fun _ _ h => h)))
        clear hM5 hF5
        go_wp2_with fail
        go_ret
        exact HR.out
      · have HD := Lib.hid (fun W => rdiv_no P Q W (by omega))
        have HRR := Lib.hid (show (opVal s ⟨f, u, v, an, bn, cn, 11, imm⟩ X M).map (fun p => p.2.told an p.1) = none from by simp [opVal, show ¬ 1 ≤ wrap32 M from by rw [HQ.out]; exact h1])
        clear h1
        go_wp2_with fail
        refine (HD.out _).mono ?_; rintro e w4 ⟨rfl, rfl⟩
        go_wp2_with fail
        go_ret
        exact op_none HRR.out HMX.out HFX.out
    · as_aux_lemma =>
      have hz : (opVal s ⟨f, u, v, an, bn, cn, op, imm⟩ X M).map (fun p => p.2.told an p.1) = none := by
        unfold opVal
        simp only [show ¬ op = 0 by omega, show ¬ op = 1 by omega, show ¬ op = 2 by omega, show ¬ op = 3 by omega, show ¬ op = 4 by omega, show ¬ op = 5 by omega, show ¬ op = 6 by omega, show ¬ op = 7 by omega, show ¬ op = 8 by omega, show ¬ op = 9 by omega, show ¬ op = 10 by omega, show ¬ op = 11 by omega, if_false]
        rfl
      have HZ := Lib.hid hz
      have q0 : (op == 0) = false := by simp; omega
      have q1 : (op == 1) = false := by simp; omega
      have q2 : (op == 2) = false := by simp; omega
      have q3 : (op == 3) = false := by simp; omega
      have q4 : (op == 4) = false := by simp; omega
      have q5 : (op == 5) = false := by simp; omega
      have q6 : (op == 6) = false := by simp; omega
      have q7 : (op == 7) = false := by simp; omega
      have q8 : (op == 8) = false := by simp; omega
      have q9 : (op == 9) = false := by simp; omega
      have q10 : (op == 10) = false := by simp; omega
      have q11 : (op == 11) = false := by simp; omega
      clear hz hlast hP hQ
      go_wp2_with fail
      go_ret
      exact op_none HZ.out HMX.out HFX.out
end
end Go.Proofs.Ytflinbfobadheaa
