/- The contracts of both branches. -/
import Derived.Test.YtflinbfobadheaaRisc9
namespace Go.Proofs.Ytflinbfobadheaa
open Go.RowKit Go.Waf
set_option maxRecDepth 100000
set_option linter.unusedVariables false

def BrPost (p : Bool) (w : World) (B q : Nat) (F : Nat → Prop) (cv mv iv ov : Value) (s : St) (o : Option (Int × St)) (e : Ending) (w' : World) : Prop :=
  ∃ t : Int, e = .returned (.tuple #[.int .i64 t, .bool o.isSome]) ∧ Mach p w' B q F cv mv iv ov ((o.map Prod.snd).getD s) ∧ Fr F w w' ∧ ∀ x s', o = some (x, s') → s'.fin = 0 → t = x
section
variable {w : World} {B q : Nat} {F : Nat → Prop} {cv mv iv ov : Value} {s : St}
theorem br_some {p : Bool} {w' : World} {o : Option (Int × St)} {x : Int} {s' : St} (t : Int) (ho : o = some (x, s')) (ht : s'.fin = 0 → t = x) (hM : Mach p w' B q F cv mv iv ov s') (hF : Fr F w w') : BrPost p w B q F cv mv iv ov s o (.returned (.tuple #[.int .i64 t, .bool true])) w' := by
  subst ho
  refine ⟨t, rfl, hM, hF, fun y s2 he h0 => ?_⟩
  simp only [Option.some.injEq, Prod.mk.injEq] at he
  obtain ⟨rfl, rfl⟩ := he
  exact ht h0
theorem br_none {p : Bool} {w' : World} {o : Option (Int × St)} (t : Int) (ho : o = none) (hM : Mach p w' B q F cv mv iv ov s) (hF : Fr F w w') : BrPost p w B q F cv mv iv ov s o (.returned (.tuple #[.int .i64 t, .bool false])) w' := by
  subst ho
  exact ⟨t, rfl, hM, hF, fun y s2 he => by cases he⟩
theorem Mach.drew {p : Bool} (h : Mach p w B q F cv mv iv ov s) : Mach p w.drew B q F cv mv iv ov s := h.drewN 1

set_option maxHeartbeats 1600000 in
theorem pbr_no (h : Mach true w B q F cv mv iv ov s) (u v : Bool) (c imm : Int) (a : Int) (ha : nib a) (hpc : s.pc ≤ 1048575) (hT : s.holds a = false)  :
    Calls Try.prog 35 #[.pointer (some ⟨q, 0, none⟩), insV ⟨3, u, v, a, 0, c, 0, imm⟩] w (BrPost true w B q F cv mv iv ov s (s.branch ⟨3, u, v, a, 0, c, 0, imm⟩)) := by
  have ho : s.branch ⟨3, u, v, a, 0, c, 0, imm⟩ = some (s.pc + 1, s) := by unfold St.branch; rw [if_pos hT]
  have HO := Lib.hid ho
  clear ho
  have HH := Lib.hid (fun (W : World) (hW : Mach true W B q F cv mv iv ov s) => pholds_any hW a ha)
  have hHH := HH.out
  rw [hT] at hHH
  have HH2 := Lib.hid hHH
  have hp0 := h.fit.p0
  obtain ⟨PC, hPC⟩ : ∃ PC, PC = s.pc := ⟨_, rfl⟩
  rw [← hPC] at hpc hp0
  have HPC := Lib.hid hPC
  have H := Lib.hid h
  have hql : q < w.heap.size := (h.fb q h.fq).2
  have cpc := h.p_pc
  rw [← hPC] at cpc
  simp only [insV]
  clear HH hHH hPC h hT ha 
  go_enter Try.func35, Try.ntmps35
  go_wp2_with fail
  refine (HH2.out _ (H.out.alloc _)).mono ?_; rintro e w1 ⟨rfl, m, hw1⟩
  have hM1 : Mach true w1 B q F cv mv iv ov s := by rw [hw1]; exact (H.out.alloc _).drewN m
  have hF1 : Fr F w w1 := by rw [hw1]; exact ((Fr.refl F w).alloc _).drewN m
  have hbox : ∀ j, w1.cell? ⟨w.heap.size, j, none⟩ = (boxOf ⟨3, u, v, a, 0, c, 0, imm⟩)[j]? := fun j => by
    rw [hw1]
    have e2 : ∀ o : Obj, ((w.alloc o).drewN m).cell? ⟨w.heap.size, j, none⟩ = (w.alloc o).cell? ⟨w.heap.size, j, none⟩ := fun _ => rfl
    rw [e2, World.cell?_alloc_new]
    rfl
  have d1 : w1.cell? ⟨w.heap.size, 1, none⟩ = some (.bool u) := hbox 1
  have d2 : w1.cell? ⟨w.heap.size, 2, none⟩ = some (.bool v) := hbox 2
  have d5 : w1.cell? ⟨w.heap.size, 5, none⟩ = some (.int .i64 c) := hbox 5
  have d7 : w1.cell? ⟨w.heap.size, 7, none⟩ = some (.int .i32 imm) := hbox 7
  have cpc1 := hM1.p_pc
  rw [← HPC.out] at cpc1
  have cf := hM1.p_fin
  have ff := hM1.frozen 26
  have ct := hM1.p_trap
  have ft := hM1.frozen 27
  have HM1 := Lib.hid hM1
  have HF1 := Lib.hid hF1
  clear hM1 hF1 hbox hw1 cpc
  go_wp2_with fail
  go_ret2
  exact br_some _ HO.out (fun _ => by rw [← HPC.out]) HM1.out HF1.out

set_option maxHeartbeats 1600000 in
theorem pbr_halt (h : Mach true w B q F cv mv iv ov s)  (a : Int) (ha : nib a) (hpc : s.pc ≤ 1048575) (hT : s.holds a = true)  :
    Calls Try.prog 35 #[.pointer (some ⟨q, 0, none⟩), insV ⟨3, false, true, a, 0, 12, 0, 0⟩] w (BrPost true w B q F cv mv iv ov s (s.branch ⟨3, false, true, a, 0, 12, 0, 0⟩)) := by
  have ho : s.branch ⟨3, false, true, a, 0, 12, 0, 0⟩ = some (s.pc + 1, { s with fin := 1 }) := by
    unfold St.branch
    rw [if_neg (by rw [hT]; simp), if_pos ⟨rfl, rfl, rfl⟩, if_pos rfl]
  have HO := Lib.hid ho
  have c12 := h.p_r 12 (by omega)
  clear ho
  have HH := Lib.hid (fun (W : World) (hW : Mach true W B q F cv mv iv ov s) => pholds_any hW a ha)
  have hHH := HH.out
  rw [hT] at hHH
  have HH2 := Lib.hid hHH
  have hp0 := h.fit.p0
  obtain ⟨PC, hPC⟩ : ∃ PC, PC = s.pc := ⟨_, rfl⟩
  rw [← hPC] at hpc hp0
  have HPC := Lib.hid hPC
  have H := Lib.hid h
  have hql : q < w.heap.size := (h.fb q h.fq).2
  have cpc := h.p_pc
  rw [← hPC] at cpc
  simp only [insV]
  clear HH hHH hPC h hT ha 
  go_enter Try.func35, Try.ntmps35
  go_wp2_with fail
  refine (HH2.out _ (H.out.alloc _)).mono ?_; rintro e w1 ⟨rfl, m, hw1⟩
  have hM1 : Mach true w1 B q F cv mv iv ov s := by rw [hw1]; exact (H.out.alloc _).drewN m
  have hF1 : Fr F w w1 := by rw [hw1]; exact ((Fr.refl F w).alloc _).drewN m
  have hbox : ∀ j, w1.cell? ⟨w.heap.size, j, none⟩ = (boxOf ⟨3, false, true, a, 0, 12, 0, 0⟩)[j]? := fun j => by
    rw [hw1]
    have e2 : ∀ o : Obj, ((w.alloc o).drewN m).cell? ⟨w.heap.size, j, none⟩ = (w.alloc o).cell? ⟨w.heap.size, j, none⟩ := fun _ => rfl
    rw [e2, World.cell?_alloc_new]
    rfl
  have d1 : w1.cell? ⟨w.heap.size, 1, none⟩ = some (.bool false) := hbox 1
  have d2 : w1.cell? ⟨w.heap.size, 2, none⟩ = some (.bool true) := hbox 2
  have d5 : w1.cell? ⟨w.heap.size, 5, none⟩ = some (.int .i64 12) := hbox 5
  have d7 : w1.cell? ⟨w.heap.size, 7, none⟩ = some (.int .i32 0) := hbox 7
  have cpc1 := hM1.p_pc
  rw [← HPC.out] at cpc1
  have cf := hM1.p_fin
  have ff := hM1.frozen 26
  have ct := hM1.p_trap
  have ft := hM1.frozen 27
  have HM1 := Lib.hid hM1
  have HF1 := Lib.hid hF1
  clear hM1 hF1 hbox hw1 cpc
  have c12' := HM1.out.p_r 12 (by omega)
  have c12b : w1.cell? ⟨q, 15, none⟩ = some (.int .u32 (s.r.getD 12 0)) := c12'
  clear c12 c12'
  go_wp2_with fail
  go_quiet (fail)
  go_wp2_with fail
  go_ret2
  refine br_some _ HO.out (fun h => by cases h) ?_ ?_
  · first | exact HM1.out.pset_fin 1 | exact (HM1.out.drewN _).pset_fin 1
  · first | exact HF1.out.setCell (p := ⟨q, 26, none⟩) (.inr H.out.fq) _ | exact (HF1.out.drewN _).setCell (p := ⟨q, 26, none⟩) (.inr H.out.fq) _

set_option maxHeartbeats 1600000 in
theorem pbr_trap (h : Mach true w B q F cv mv iv ov s) (imm : Int) (a : Int) (ha : nib a) (hpc : s.pc ≤ 1048575) (hT : s.holds a = true)  (hi0 : 1 ≤ imm) (hi1 : imm < 16) :
    Calls Try.prog 35 #[.pointer (some ⟨q, 0, none⟩), insV ⟨3, false, true, a, 0, 12, 0, imm⟩] w (BrPost true w B q F cv mv iv ov s (s.branch ⟨3, false, true, a, 0, 12, 0, imm⟩)) := by
  have ho : s.branch ⟨3, false, true, a, 0, 12, 0, imm⟩ = some (s.pc + 1, { s with fin := 2, trap := imm }) := by
    unfold St.branch
    rw [if_neg (by rw [hT]; simp), if_pos ⟨rfl, rfl, rfl⟩, if_neg (by simp only; omega)]
  have HO := Lib.hid ho
  have c12 := h.p_r 12 (by omega)
  clear ho
  have HH := Lib.hid (fun (W : World) (hW : Mach true W B q F cv mv iv ov s) => pholds_any hW a ha)
  have hHH := HH.out
  rw [hT] at hHH
  have HH2 := Lib.hid hHH
  have hp0 := h.fit.p0
  obtain ⟨PC, hPC⟩ : ∃ PC, PC = s.pc := ⟨_, rfl⟩
  rw [← hPC] at hpc hp0
  have HPC := Lib.hid hPC
  have H := Lib.hid h
  have hql : q < w.heap.size := (h.fb q h.fq).2
  have cpc := h.p_pc
  rw [← hPC] at cpc
  simp only [insV]
  clear HH hHH hPC h hT ha 
  go_enter Try.func35, Try.ntmps35
  go_wp2_with fail
  refine (HH2.out _ (H.out.alloc _)).mono ?_; rintro e w1 ⟨rfl, m, hw1⟩
  have hM1 : Mach true w1 B q F cv mv iv ov s := by rw [hw1]; exact (H.out.alloc _).drewN m
  have hF1 : Fr F w w1 := by rw [hw1]; exact ((Fr.refl F w).alloc _).drewN m
  have hbox : ∀ j, w1.cell? ⟨w.heap.size, j, none⟩ = (boxOf ⟨3, false, true, a, 0, 12, 0, imm⟩)[j]? := fun j => by
    rw [hw1]
    have e2 : ∀ o : Obj, ((w.alloc o).drewN m).cell? ⟨w.heap.size, j, none⟩ = (w.alloc o).cell? ⟨w.heap.size, j, none⟩ := fun _ => rfl
    rw [e2, World.cell?_alloc_new]
    rfl
  have d1 : w1.cell? ⟨w.heap.size, 1, none⟩ = some (.bool false) := hbox 1
  have d2 : w1.cell? ⟨w.heap.size, 2, none⟩ = some (.bool true) := hbox 2
  have d5 : w1.cell? ⟨w.heap.size, 5, none⟩ = some (.int .i64 12) := hbox 5
  have d7 : w1.cell? ⟨w.heap.size, 7, none⟩ = some (.int .i32 imm) := hbox 7
  have cpc1 := hM1.p_pc
  rw [← HPC.out] at cpc1
  have cf := hM1.p_fin
  have ff := hM1.frozen 26
  have ct := hM1.p_trap
  have ft := hM1.frozen 27
  have HM1 := Lib.hid hM1
  have HF1 := Lib.hid hF1
  clear hM1 hF1 hbox hw1 cpc
  have c12' := HM1.out.p_r 12 (by omega)
  have c12b : w1.cell? ⟨q, 15, none⟩ = some (.int .u32 (s.r.getD 12 0)) := c12'
  clear c12 c12'
  go_wp2_with fail
  go_quiet (fail)
  have qi : (imm == 0) = false := by simp; omega
  go_wp2_with fail
  go_region
  go_wp2_with fail
  go_ret2
  refine br_some _ HO.out (fun h => by cases h) ?_ ?_
  · first
      | exact ((((HM1.out.drewN _).pset_fin 1).pset_fin 2).pset_trap imm).drew
      | exact (((HM1.out.drewN _).pset_fin 1).pset_fin 2).pset_trap imm
      | exact ((HM1.out.pset_fin 1).pset_fin 2).pset_trap imm
      | exact ((((HM1.out.pset_fin 1).drewN _).pset_fin 2).pset_trap imm)
      | exact ((((((HM1.out.drewN _).pset_fin 1)).drewN _).pset_fin 2).pset_trap imm)
  · first
      | exact ((((HF1.out.drewN _).setCell (p := ⟨q, 26, none⟩) (.inr H.out.fq) _).setCell (p := ⟨q, 26, none⟩) (.inr H.out.fq) _).setCell (p := ⟨q, 27, none⟩) (.inr H.out.fq) _).drew
      | exact (((HF1.out.drewN _).setCell (p := ⟨q, 26, none⟩) (.inr H.out.fq) _).setCell (p := ⟨q, 26, none⟩) (.inr H.out.fq) _).setCell (p := ⟨q, 27, none⟩) (.inr H.out.fq) _
      | exact ((HF1.out.setCell (p := ⟨q, 26, none⟩) (.inr H.out.fq) _).setCell (p := ⟨q, 26, none⟩) (.inr H.out.fq) _).setCell (p := ⟨q, 27, none⟩) (.inr H.out.fq) _

set_option maxHeartbeats 1600000 in
theorem pbr_rel_low (h : Mach true w B q F cv mv iv ov s) (v : Bool) (imm : Int) (a : Int) (ha : nib a) (hpc : s.pc ≤ 1048575) (hT : s.holds a = true)  (hi0 : -8388608 ≤ imm) (hi1 : imm < 8388608) (ht : s.pc + 1 + imm < 0) :
    Calls Try.prog 35 #[.pointer (some ⟨q, 0, none⟩), insV ⟨3, true, v, a, 0, 0, 0, imm⟩] w (BrPost true w B q F cv mv iv ov s (s.branch ⟨3, true, v, a, 0, 0, 0, imm⟩)) := by
  have ho : s.branch ⟨3, true, v, a, 0, 0, 0, imm⟩ = none := by
    unfold St.branch
    rw [if_neg (by rw [hT]; simp), if_neg (by rintro ⟨h1, _⟩; cases h1)]
    simp only [if_true]
    rw [if_pos (by omega)]
  have HO := Lib.hid ho
  clear ho
  have HH := Lib.hid (fun (W : World) (hW : Mach true W B q F cv mv iv ov s) => pholds_any hW a ha)
  have hHH := HH.out
  rw [hT] at hHH
  have HH2 := Lib.hid hHH
  have hp0 := h.fit.p0
  obtain ⟨PC, hPC⟩ : ∃ PC, PC = s.pc := ⟨_, rfl⟩
  rw [← hPC] at hpc hp0 ht
  have HPC := Lib.hid hPC
  have H := Lib.hid h
  have hql : q < w.heap.size := (h.fb q h.fq).2
  have cpc := h.p_pc
  rw [← hPC] at cpc
  simp only [insV]
  clear HH hHH hPC h hT ha 
  go_enter Try.func35, Try.ntmps35
  go_wp2_with fail
  refine (HH2.out _ (H.out.alloc _)).mono ?_; rintro e w1 ⟨rfl, m, hw1⟩
  have hM1 : Mach true w1 B q F cv mv iv ov s := by rw [hw1]; exact (H.out.alloc _).drewN m
  have hF1 : Fr F w w1 := by rw [hw1]; exact ((Fr.refl F w).alloc _).drewN m
  have hbox : ∀ j, w1.cell? ⟨w.heap.size, j, none⟩ = (boxOf ⟨3, true, v, a, 0, 0, 0, imm⟩)[j]? := fun j => by
    rw [hw1]
    have e2 : ∀ o : Obj, ((w.alloc o).drewN m).cell? ⟨w.heap.size, j, none⟩ = (w.alloc o).cell? ⟨w.heap.size, j, none⟩ := fun _ => rfl
    rw [e2, World.cell?_alloc_new]
    rfl
  have d1 : w1.cell? ⟨w.heap.size, 1, none⟩ = some (.bool true) := hbox 1
  have d2 : w1.cell? ⟨w.heap.size, 2, none⟩ = some (.bool v) := hbox 2
  have d5 : w1.cell? ⟨w.heap.size, 5, none⟩ = some (.int .i64 0) := hbox 5
  have d7 : w1.cell? ⟨w.heap.size, 7, none⟩ = some (.int .i32 imm) := hbox 7
  have cpc1 := hM1.p_pc
  rw [← HPC.out] at cpc1
  have cf := hM1.p_fin
  have ff := hM1.frozen 26
  have ct := hM1.p_trap
  have ft := hM1.frozen 27
  have HM1 := Lib.hid hM1
  have HF1 := Lib.hid hF1
  clear hM1 hF1 hbox hw1 cpc
  go_wp2_with fail
  go_ret2
  exact br_none _ HO.out (by first | exact HM1.out | exact HM1.out.drewN _) (by first | exact HF1.out | exact HF1.out.drewN _)

set_option maxHeartbeats 1600000 in
theorem pbr_rel_high (h : Mach true w B q F cv mv iv ov s) (v : Bool) (imm : Int) (a : Int) (ha : nib a) (hpc : s.pc ≤ 1048575) (hT : s.holds a = true)  (hi0 : -8388608 ≤ imm) (hi1 : imm < 8388608) (ht0 : 0 ≤ s.pc + 1 + imm) (ht : 1048576 < s.pc + 1 + imm) :
    Calls Try.prog 35 #[.pointer (some ⟨q, 0, none⟩), insV ⟨3, true, v, a, 0, 0, 0, imm⟩] w (BrPost true w B q F cv mv iv ov s (s.branch ⟨3, true, v, a, 0, 0, 0, imm⟩)) := by
  have ho : s.branch ⟨3, true, v, a, 0, 0, 0, imm⟩ = none := by
    unfold St.branch
    rw [if_neg (by rw [hT]; simp), if_neg (by rintro ⟨h1, _⟩; cases h1)]
    simp only [if_true]
    rw [if_pos (by omega)]
  have HO := Lib.hid ho
  clear ho
  have HH := Lib.hid (fun (W : World) (hW : Mach true W B q F cv mv iv ov s) => pholds_any hW a ha)
  have hHH := HH.out
  rw [hT] at hHH
  have HH2 := Lib.hid hHH
  have hp0 := h.fit.p0
  obtain ⟨PC, hPC⟩ : ∃ PC, PC = s.pc := ⟨_, rfl⟩
  rw [← hPC] at hpc hp0 ht ht0
  have HPC := Lib.hid hPC
  have H := Lib.hid h
  have hql : q < w.heap.size := (h.fb q h.fq).2
  have cpc := h.p_pc
  rw [← hPC] at cpc
  simp only [insV]
  clear HH hHH hPC h hT ha 
  go_enter Try.func35, Try.ntmps35
  go_wp2_with fail
  refine (HH2.out _ (H.out.alloc _)).mono ?_; rintro e w1 ⟨rfl, m, hw1⟩
  have hM1 : Mach true w1 B q F cv mv iv ov s := by rw [hw1]; exact (H.out.alloc _).drewN m
  have hF1 : Fr F w w1 := by rw [hw1]; exact ((Fr.refl F w).alloc _).drewN m
  have hbox : ∀ j, w1.cell? ⟨w.heap.size, j, none⟩ = (boxOf ⟨3, true, v, a, 0, 0, 0, imm⟩)[j]? := fun j => by
    rw [hw1]
    have e2 : ∀ o : Obj, ((w.alloc o).drewN m).cell? ⟨w.heap.size, j, none⟩ = (w.alloc o).cell? ⟨w.heap.size, j, none⟩ := fun _ => rfl
    rw [e2, World.cell?_alloc_new]
    rfl
  have d1 : w1.cell? ⟨w.heap.size, 1, none⟩ = some (.bool true) := hbox 1
  have d2 : w1.cell? ⟨w.heap.size, 2, none⟩ = some (.bool v) := hbox 2
  have d5 : w1.cell? ⟨w.heap.size, 5, none⟩ = some (.int .i64 0) := hbox 5
  have d7 : w1.cell? ⟨w.heap.size, 7, none⟩ = some (.int .i32 imm) := hbox 7
  have cpc1 := hM1.p_pc
  rw [← HPC.out] at cpc1
  have cf := hM1.p_fin
  have ff := hM1.frozen 26
  have ct := hM1.p_trap
  have ft := hM1.frozen 27
  have HM1 := Lib.hid hM1
  have HF1 := Lib.hid hF1
  clear hM1 hF1 hbox hw1 cpc
  go_wp2_with fail
  go_ret2
  exact br_none _ HO.out (by first | exact HM1.out | exact HM1.out.drewN _) (by first | exact HF1.out | exact HF1.out.drewN _)

set_option maxHeartbeats 1600000 in
theorem pbr_rel_plain (h : Mach true w B q F cv mv iv ov s) (imm : Int) (a : Int) (ha : nib a) (hpc : s.pc ≤ 1048575) (hT : s.holds a = true)  (hi0 : -8388608 ≤ imm) (hi1 : imm < 8388608) (ht0 : 0 ≤ s.pc + 1 + imm) (ht : s.pc + 1 + imm ≤ 1048576) :
    Calls Try.prog 35 #[.pointer (some ⟨q, 0, none⟩), insV ⟨3, true, false, a, 0, 0, 0, imm⟩] w (BrPost true w B q F cv mv iv ov s (s.branch ⟨3, true, false, a, 0, 0, 0, imm⟩)) := by
  have ho : s.branch ⟨3, true, false, a, 0, 0, 0, imm⟩ = some (s.pc + 1 + imm, s) := by
    unfold St.branch
    rw [if_neg (by rw [hT]; simp), if_neg (by rintro ⟨h1, _⟩; cases h1)]
    simp only [if_true]
    rw [if_neg (by omega)]
    rw [if_neg (by simp)]
  have HO := Lib.hid ho
  clear ho
  have HH := Lib.hid (fun (W : World) (hW : Mach true W B q F cv mv iv ov s) => pholds_any hW a ha)
  have hHH := HH.out
  rw [hT] at hHH
  have HH2 := Lib.hid hHH
  have hp0 := h.fit.p0
  obtain ⟨PC, hPC⟩ : ∃ PC, PC = s.pc := ⟨_, rfl⟩
  rw [← hPC] at hpc hp0 ht ht0
  have HPC := Lib.hid hPC
  have H := Lib.hid h
  have hql : q < w.heap.size := (h.fb q h.fq).2
  have cpc := h.p_pc
  rw [← hPC] at cpc
  simp only [insV]
  clear HH hHH hPC h hT ha 
  go_enter Try.func35, Try.ntmps35
  go_wp2_with fail
  refine (HH2.out _ (H.out.alloc _)).mono ?_; rintro e w1 ⟨rfl, m, hw1⟩
  have hM1 : Mach true w1 B q F cv mv iv ov s := by rw [hw1]; exact (H.out.alloc _).drewN m
  have hF1 : Fr F w w1 := by rw [hw1]; exact ((Fr.refl F w).alloc _).drewN m
  have hbox : ∀ j, w1.cell? ⟨w.heap.size, j, none⟩ = (boxOf ⟨3, true, false, a, 0, 0, 0, imm⟩)[j]? := fun j => by
    rw [hw1]
    have e2 : ∀ o : Obj, ((w.alloc o).drewN m).cell? ⟨w.heap.size, j, none⟩ = (w.alloc o).cell? ⟨w.heap.size, j, none⟩ := fun _ => rfl
    rw [e2, World.cell?_alloc_new]
    rfl
  have d1 : w1.cell? ⟨w.heap.size, 1, none⟩ = some (.bool true) := hbox 1
  have d2 : w1.cell? ⟨w.heap.size, 2, none⟩ = some (.bool false) := hbox 2
  have d5 : w1.cell? ⟨w.heap.size, 5, none⟩ = some (.int .i64 0) := hbox 5
  have d7 : w1.cell? ⟨w.heap.size, 7, none⟩ = some (.int .i32 imm) := hbox 7
  have cpc1 := hM1.p_pc
  rw [← HPC.out] at cpc1
  have cf := hM1.p_fin
  have ff := hM1.frozen 26
  have ct := hM1.p_trap
  have ft := hM1.frozen 27
  have HM1 := Lib.hid hM1
  have HF1 := Lib.hid hF1
  clear hM1 hF1 hbox hw1 cpc
  go_wp2_with fail
  go_ret2
  exact br_some _ HO.out (fun _ => by first | (rw [← HPC.out]) | (rw [HTV.out])) (by first | exact HM1.out | exact HM1.out.drewN _) (by first | exact HF1.out | exact HF1.out.drewN _)

set_option maxHeartbeats 1600000 in
theorem pbr_rel_link (h : Mach true w B q F cv mv iv ov s) (imm : Int) (a : Int) (ha : nib a) (hpc : s.pc ≤ 1048575) (hT : s.holds a = true)  (hi0 : -8388608 ≤ imm) (hi1 : imm < 8388608) (ht0 : 0 ≤ s.pc + 1 + imm) (ht : s.pc + 1 + imm ≤ 1048576) :
    Calls Try.prog 35 #[.pointer (some ⟨q, 0, none⟩), insV ⟨3, true, true, a, 0, 0, 0, imm⟩] w (BrPost true w B q F cv mv iv ov s (s.branch ⟨3, true, true, a, 0, 0, 0, imm⟩)) := by
  have ho : s.branch ⟨3, true, true, a, 0, 0, 0, imm⟩ = some (s.pc + 1 + imm, { s with r := s.r.set 15 (cut32 (s.pc + 1)) }) := by
    unfold St.branch
    rw [if_neg (by rw [hT]; simp), if_neg (by rintro ⟨h1, _⟩; cases h1)]
    simp only [if_true]
    rw [if_neg (by omega)]
    try rw [if_pos rfl]
  have HO := Lib.hid ho
  clear ho
  have HH := Lib.hid (fun (W : World) (hW : Mach true W B q F cv mv iv ov s) => pholds_any hW a ha)
  have hHH := HH.out
  rw [hT] at hHH
  have HH2 := Lib.hid hHH
  have hp0 := h.fit.p0
  obtain ⟨PC, hPC⟩ : ∃ PC, PC = s.pc := ⟨_, rfl⟩
  rw [← hPC] at hpc hp0 ht ht0
  have HPC := Lib.hid hPC
  have H := Lib.hid h
  have hql : q < w.heap.size := (h.fb q h.fq).2
  have cpc := h.p_pc
  rw [← hPC] at cpc
  simp only [insV]
  clear HH hHH hPC h hT ha 
  go_enter Try.func35, Try.ntmps35
  go_wp2_with fail
  refine (HH2.out _ (H.out.alloc _)).mono ?_; rintro e w1 ⟨rfl, m, hw1⟩
  have hM1 : Mach true w1 B q F cv mv iv ov s := by rw [hw1]; exact (H.out.alloc _).drewN m
  have hF1 : Fr F w w1 := by rw [hw1]; exact ((Fr.refl F w).alloc _).drewN m
  have hbox : ∀ j, w1.cell? ⟨w.heap.size, j, none⟩ = (boxOf ⟨3, true, true, a, 0, 0, 0, imm⟩)[j]? := fun j => by
    rw [hw1]
    have e2 : ∀ o : Obj, ((w.alloc o).drewN m).cell? ⟨w.heap.size, j, none⟩ = (w.alloc o).cell? ⟨w.heap.size, j, none⟩ := fun _ => rfl
    rw [e2, World.cell?_alloc_new]
    rfl
  have d1 : w1.cell? ⟨w.heap.size, 1, none⟩ = some (.bool true) := hbox 1
  have d2 : w1.cell? ⟨w.heap.size, 2, none⟩ = some (.bool true) := hbox 2
  have d5 : w1.cell? ⟨w.heap.size, 5, none⟩ = some (.int .i64 0) := hbox 5
  have d7 : w1.cell? ⟨w.heap.size, 7, none⟩ = some (.int .i32 imm) := hbox 7
  have cpc1 := hM1.p_pc
  rw [← HPC.out] at cpc1
  have cf := hM1.p_fin
  have ff := hM1.frozen 26
  have ct := hM1.p_trap
  have ft := hM1.frozen 27
  have HM1 := Lib.hid hM1
  have HF1 := Lib.hid hF1
  clear hM1 hF1 hbox hw1 cpc
  have c15 : w1.cell? ⟨q, 18, none⟩ = some (.int .u32 (s.r.getD 15 0)) := HM1.out.p_r 15 (by omega)
  have f15 := HM1.out.frozen 18
  go_wp2_with fail
  go_ret2
  have hw : W32 (PC + 1) := ⟨by omega, by omega⟩
  have ec : cut32 (s.pc + 1) = PC + 1 := by rw [← HPC.out]; unfold cut32; omega
  have ho := HO.out
  rw [ec] at ho
  exact br_some _ ho (fun _ => by first | (rw [← HPC.out]) | (rw [HTV.out])) (by first | exact HM1.out.pset_r 15 (by omega) (PC + 1) hw | exact (HM1.out.drewN _).pset_r 15 (by omega) (PC + 1) hw) (by first | exact HF1.out.setCell (p := ⟨q, 18, none⟩) (.inr H.out.fq) _ | exact (HF1.out.drewN _).setCell (p := ⟨q, 18, none⟩) (.inr H.out.fq) _)

set_option maxHeartbeats 1600000 in
theorem pbr_reg_high (h : Mach true w B q F cv mv iv ov s) (v : Bool) (c imm : Int) (a : Int) (ha : nib a) (hpc : s.pc ≤ 1048575) (hT : s.holds a = true)  (hc : nib c) (hc12 : v = true → c ≠ 12) (ht0 : 0 ≤ s.rg c) (ht : 1048576 < s.rg c) :
    Calls Try.prog 35 #[.pointer (some ⟨q, 0, none⟩), insV ⟨3, false, v, a, 0, c, 0, imm⟩] w (BrPost true w B q F cv mv iv ov s (s.branch ⟨3, false, v, a, 0, c, 0, imm⟩)) := by
  have ho : s.branch ⟨3, false, v, a, 0, c, 0, imm⟩ = none := by
    unfold St.branch
    rw [if_neg (by rw [hT]; simp), if_neg (by rintro ⟨_, h2, h3⟩; exact hc12 h2 h3)]
    simp only [Bool.false_eq_true, if_false]
    rw [if_pos (by omega)]
  have HO := Lib.hid ho
  clear ho
  obtain ⟨cn, rfl⟩ := Int.eq_ofNat_of_zero_le hc.1
  have hcn : cn < 16 := by have := (show (cn : Int) < 16 from hc.2); omega
  obtain ⟨Tv, hTv⟩ : ∃ Tv, Tv = s.rg cn := ⟨_, rfl⟩
  rw [← hTv] at ht0 ht
  have ht2 : Tv ≤ 4294967295 := by have := (h.fit.rg (cn : Int) hc).2; rw [hTv]; omega
  have HTV := Lib.hid hTv
  clear hTv
  have HC12 := Lib.hid hc12
  have HH := Lib.hid (fun (W : World) (hW : Mach true W B q F cv mv iv ov s) => pholds_any hW a ha)
  have hHH := HH.out
  rw [hT] at hHH
  have HH2 := Lib.hid hHH
  have hp0 := h.fit.p0
  obtain ⟨PC, hPC⟩ : ∃ PC, PC = s.pc := ⟨_, rfl⟩
  rw [← hPC] at hpc hp0
  have HPC := Lib.hid hPC
  have H := Lib.hid h
  have hql : q < w.heap.size := (h.fb q h.fq).2
  have cpc := h.p_pc
  rw [← hPC] at cpc
  simp only [insV]
  clear HH hHH hPC h hT ha hc hc12
  go_enter Try.func35, Try.ntmps35
  go_wp2_with fail
  refine (HH2.out _ (H.out.alloc _)).mono ?_; rintro e w1 ⟨rfl, m, hw1⟩
  have hM1 : Mach true w1 B q F cv mv iv ov s := by rw [hw1]; exact (H.out.alloc _).drewN m
  have hF1 : Fr F w w1 := by rw [hw1]; exact ((Fr.refl F w).alloc _).drewN m
  have hbox : ∀ j, w1.cell? ⟨w.heap.size, j, none⟩ = (boxOf ⟨3, false, v, a, 0, (cn : Int), 0, imm⟩)[j]? := fun j => by
    rw [hw1]
    have e2 : ∀ o : Obj, ((w.alloc o).drewN m).cell? ⟨w.heap.size, j, none⟩ = (w.alloc o).cell? ⟨w.heap.size, j, none⟩ := fun _ => rfl
    rw [e2, World.cell?_alloc_new]
    rfl
  have d1 : w1.cell? ⟨w.heap.size, 1, none⟩ = some (.bool false) := hbox 1
  have d2 : w1.cell? ⟨w.heap.size, 2, none⟩ = some (.bool v) := hbox 2
  have d5 : w1.cell? ⟨w.heap.size, 5, none⟩ = some (.int .i64 (cn : Int)) := hbox 5
  have d7 : w1.cell? ⟨w.heap.size, 7, none⟩ = some (.int .i32 imm) := hbox 7
  have cpc1 := hM1.p_pc
  rw [← HPC.out] at cpc1
  have cf := hM1.p_fin
  have ff := hM1.frozen 26
  have ct := hM1.p_trap
  have ft := hM1.frozen 27
  have HM1 := Lib.hid hM1
  have HF1 := Lib.hid hF1
  clear hM1 hF1 hbox hw1 cpc
  have ccn := HM1.out.p_r cn hcn
  have eT : s.r.getD cn 0 = Tv := HTV.out.symm
  rw [eT] at ccn
  clear eT
  cases v with
  | false =>
    go_wp2_with fail
    go_quiet (fail)
    go_wp2_with fail
    go_ret2
    exact br_none _ HO.out (by first | exact HM1.out | exact HM1.out.drewN _) (by first | exact HF1.out | exact HF1.out.drewN _)
  | true =>
    have q12 : ((cn : Int) == 12) = false := by simp; exact fun e => HC12.out rfl (by omega)
    go_wp2_with fail
    go_quiet (fail)
    go_wp2_with fail
    go_ret2
    exact br_none _ HO.out (by first | exact HM1.out | exact HM1.out.drewN _) (by first | exact HF1.out | exact HF1.out.drewN _)

set_option maxHeartbeats 1600000 in
theorem pbr_reg_plain (h : Mach true w B q F cv mv iv ov s) (c imm : Int) (a : Int) (ha : nib a) (hpc : s.pc ≤ 1048575) (hT : s.holds a = true)  (hc : nib c) (ht0 : 0 ≤ s.rg c) (ht : s.rg c ≤ 1048576) :
    Calls Try.prog 35 #[.pointer (some ⟨q, 0, none⟩), insV ⟨3, false, false, a, 0, c, 0, imm⟩] w (BrPost true w B q F cv mv iv ov s (s.branch ⟨3, false, false, a, 0, c, 0, imm⟩)) := by
  have ho : s.branch ⟨3, false, false, a, 0, c, 0, imm⟩ = some (s.rg c, s) := by
    unfold St.branch
    rw [if_neg (by rw [hT]; simp), if_neg (by rintro ⟨_, h2, _⟩; cases h2)]
    simp only [Bool.false_eq_true, if_false]
    rw [if_neg (by omega)]
    try simp
  have HO := Lib.hid ho
  clear ho
  obtain ⟨cn, rfl⟩ := Int.eq_ofNat_of_zero_le hc.1
  have hcn : cn < 16 := by have := (show (cn : Int) < 16 from hc.2); omega
  obtain ⟨Tv, hTv⟩ : ∃ Tv, Tv = s.rg cn := ⟨_, rfl⟩
  rw [← hTv] at ht0 ht
  have ht2 : Tv ≤ 4294967295 := by have := (h.fit.rg (cn : Int) hc).2; rw [hTv]; omega
  have HTV := Lib.hid hTv
  clear hTv
  have HH := Lib.hid (fun (W : World) (hW : Mach true W B q F cv mv iv ov s) => pholds_any hW a ha)
  have hHH := HH.out
  rw [hT] at hHH
  have HH2 := Lib.hid hHH
  have hp0 := h.fit.p0
  obtain ⟨PC, hPC⟩ : ∃ PC, PC = s.pc := ⟨_, rfl⟩
  rw [← hPC] at hpc hp0
  have HPC := Lib.hid hPC
  have H := Lib.hid h
  have hql : q < w.heap.size := (h.fb q h.fq).2
  have cpc := h.p_pc
  rw [← hPC] at cpc
  simp only [insV]
  clear HH hHH hPC h hT ha hc
  go_enter Try.func35, Try.ntmps35
  go_wp2_with fail
  refine (HH2.out _ (H.out.alloc _)).mono ?_; rintro e w1 ⟨rfl, m, hw1⟩
  have hM1 : Mach true w1 B q F cv mv iv ov s := by rw [hw1]; exact (H.out.alloc _).drewN m
  have hF1 : Fr F w w1 := by rw [hw1]; exact ((Fr.refl F w).alloc _).drewN m
  have hbox : ∀ j, w1.cell? ⟨w.heap.size, j, none⟩ = (boxOf ⟨3, false, false, a, 0, (cn : Int), 0, imm⟩)[j]? := fun j => by
    rw [hw1]
    have e2 : ∀ o : Obj, ((w.alloc o).drewN m).cell? ⟨w.heap.size, j, none⟩ = (w.alloc o).cell? ⟨w.heap.size, j, none⟩ := fun _ => rfl
    rw [e2, World.cell?_alloc_new]
    rfl
  have d1 : w1.cell? ⟨w.heap.size, 1, none⟩ = some (.bool false) := hbox 1
  have d2 : w1.cell? ⟨w.heap.size, 2, none⟩ = some (.bool false) := hbox 2
  have d5 : w1.cell? ⟨w.heap.size, 5, none⟩ = some (.int .i64 (cn : Int)) := hbox 5
  have d7 : w1.cell? ⟨w.heap.size, 7, none⟩ = some (.int .i32 imm) := hbox 7
  have cpc1 := hM1.p_pc
  rw [← HPC.out] at cpc1
  have cf := hM1.p_fin
  have ff := hM1.frozen 26
  have ct := hM1.p_trap
  have ft := hM1.frozen 27
  have HM1 := Lib.hid hM1
  have HF1 := Lib.hid hF1
  clear hM1 hF1 hbox hw1 cpc
  have ccn := HM1.out.p_r cn hcn
  have eT : s.r.getD cn 0 = Tv := HTV.out.symm
  rw [eT] at ccn
  clear eT
  go_wp2_with fail
  go_quiet (fail)
  go_wp2_with fail
  go_ret2
  exact br_some _ HO.out (fun _ => by first | (rw [← HPC.out]) | (rw [HTV.out])) (by first | exact HM1.out | exact HM1.out.drewN _) (by first | exact HF1.out | exact HF1.out.drewN _)

set_option maxHeartbeats 1600000 in
theorem pbr_reg_link (h : Mach true w B q F cv mv iv ov s) (c imm : Int) (a : Int) (ha : nib a) (hpc : s.pc ≤ 1048575) (hT : s.holds a = true)  (hc : nib c) (hc12 : c ≠ 12) (ht0 : 0 ≤ s.rg c) (ht : s.rg c ≤ 1048576) :
    Calls Try.prog 35 #[.pointer (some ⟨q, 0, none⟩), insV ⟨3, false, true, a, 0, c, 0, imm⟩] w (BrPost true w B q F cv mv iv ov s (s.branch ⟨3, false, true, a, 0, c, 0, imm⟩)) := by
  have ho : s.branch ⟨3, false, true, a, 0, c, 0, imm⟩ = some (s.rg c, { s with r := s.r.set 15 (cut32 (s.pc + 1)) }) := by
    unfold St.branch
    rw [if_neg (by rw [hT]; simp), if_neg (by rintro ⟨_, _, h3⟩; exact hc12 h3)]
    simp only [Bool.false_eq_true, if_false]
    rw [if_neg (by omega)]
    try simp
  have HO := Lib.hid ho
  clear ho
  obtain ⟨cn, rfl⟩ := Int.eq_ofNat_of_zero_le hc.1
  have hcn : cn < 16 := by have := (show (cn : Int) < 16 from hc.2); omega
  obtain ⟨Tv, hTv⟩ : ∃ Tv, Tv = s.rg cn := ⟨_, rfl⟩
  rw [← hTv] at ht0 ht
  have ht2 : Tv ≤ 4294967295 := by have := (h.fit.rg (cn : Int) hc).2; rw [hTv]; omega
  have HTV := Lib.hid hTv
  clear hTv
  have HH := Lib.hid (fun (W : World) (hW : Mach true W B q F cv mv iv ov s) => pholds_any hW a ha)
  have hHH := HH.out
  rw [hT] at hHH
  have HH2 := Lib.hid hHH
  have hp0 := h.fit.p0
  obtain ⟨PC, hPC⟩ : ∃ PC, PC = s.pc := ⟨_, rfl⟩
  rw [← hPC] at hpc hp0
  have HPC := Lib.hid hPC
  have H := Lib.hid h
  have hql : q < w.heap.size := (h.fb q h.fq).2
  have cpc := h.p_pc
  rw [← hPC] at cpc
  simp only [insV]
  clear HH hHH hPC h hT ha hc
  go_enter Try.func35, Try.ntmps35
  go_wp2_with fail
  refine (HH2.out _ (H.out.alloc _)).mono ?_; rintro e w1 ⟨rfl, m, hw1⟩
  have hM1 : Mach true w1 B q F cv mv iv ov s := by rw [hw1]; exact (H.out.alloc _).drewN m
  have hF1 : Fr F w w1 := by rw [hw1]; exact ((Fr.refl F w).alloc _).drewN m
  have hbox : ∀ j, w1.cell? ⟨w.heap.size, j, none⟩ = (boxOf ⟨3, false, true, a, 0, (cn : Int), 0, imm⟩)[j]? := fun j => by
    rw [hw1]
    have e2 : ∀ o : Obj, ((w.alloc o).drewN m).cell? ⟨w.heap.size, j, none⟩ = (w.alloc o).cell? ⟨w.heap.size, j, none⟩ := fun _ => rfl
    rw [e2, World.cell?_alloc_new]
    rfl
  have d1 : w1.cell? ⟨w.heap.size, 1, none⟩ = some (.bool false) := hbox 1
  have d2 : w1.cell? ⟨w.heap.size, 2, none⟩ = some (.bool true) := hbox 2
  have d5 : w1.cell? ⟨w.heap.size, 5, none⟩ = some (.int .i64 (cn : Int)) := hbox 5
  have d7 : w1.cell? ⟨w.heap.size, 7, none⟩ = some (.int .i32 imm) := hbox 7
  have cpc1 := hM1.p_pc
  rw [← HPC.out] at cpc1
  have cf := hM1.p_fin
  have ff := hM1.frozen 26
  have ct := hM1.p_trap
  have ft := hM1.frozen 27
  have HM1 := Lib.hid hM1
  have HF1 := Lib.hid hF1
  clear hM1 hF1 hbox hw1 cpc
  have ccn := HM1.out.p_r cn hcn
  have eT : s.r.getD cn 0 = Tv := HTV.out.symm
  rw [eT] at ccn
  clear eT
  have q12 : ((cn : Int) == 12) = false := by simp; exact fun e => hc12 (by omega)
  have c15 : w1.cell? ⟨q, 18, none⟩ = some (.int .u32 (s.r.getD 15 0)) := HM1.out.p_r 15 (by omega)
  have f15 := HM1.out.frozen 18
  go_wp2_with fail
  go_quiet (fail)
  go_wp2_with fail
  go_ret2
  have hw : W32 (PC + 1) := ⟨by omega, by omega⟩
  have ec : cut32 (s.pc + 1) = PC + 1 := by rw [← HPC.out]; unfold cut32; omega
  have ho := HO.out
  rw [ec] at ho
  exact br_some _ ho (fun _ => by first | (rw [← HPC.out]) | (rw [HTV.out])) (by first | exact HM1.out.pset_r 15 (by omega) (PC + 1) hw | exact (HM1.out.drewN _).pset_r 15 (by omega) (PC + 1) hw) (by first | exact HF1.out.setCell (p := ⟨q, 18, none⟩) (.inr H.out.fq) _ | exact (HF1.out.drewN _).setCell (p := ⟨q, 18, none⟩) (.inr H.out.fq) _)

set_option maxHeartbeats 1600000 in
theorem rbr_no (h : Mach false w B q F cv mv iv ov s) (u v : Bool) (c imm : Int) (a : Int) (ha : nib a) (hpc : s.pc ≤ 1048575) (hT : s.holds a = false)  :
    Calls Try.prog 43 #[.pointer (some ⟨q, 0, none⟩), insV ⟨3, u, v, a, 0, c, 0, imm⟩] w (BrPost false w B q F cv mv iv ov s (s.branch ⟨3, u, v, a, 0, c, 0, imm⟩)) := by
  have ho : s.branch ⟨3, u, v, a, 0, c, 0, imm⟩ = some (s.pc + 1, s) := by unfold St.branch; rw [if_pos hT]
  have HO := Lib.hid ho
  clear ho
  have HH := Lib.hid (fun (W : World) (hW : Mach false W B q F cv mv iv ov s) => rholds_any hW a ha)
  have hHH := HH.out
  rw [hT] at hHH
  have HH2 := Lib.hid hHH
  have hp0 := h.fit.p0
  obtain ⟨PC, hPC⟩ : ∃ PC, PC = s.pc := ⟨_, rfl⟩
  rw [← hPC] at hpc hp0
  have HPC := Lib.hid hPC
  have H := Lib.hid h
  have hql : q < w.heap.size := (h.fb q h.fq).2
  have cpc := h.r_pc
  rw [← hPC] at cpc
  simp only [insV]
  clear HH hHH hPC h hT ha 
  go_enter Try.func43, Try.ntmps43
  go_wp2_with fail
  refine (HH2.out _ (H.out.alloc _)).mono ?_; rintro e w1 ⟨rfl, m, hw1⟩
  have hM1 : Mach false w1 B q F cv mv iv ov s := by rw [hw1]; exact (H.out.alloc _).drewN m
  have hF1 : Fr F w w1 := by rw [hw1]; exact ((Fr.refl F w).alloc _).drewN m
  have hbox : ∀ j, w1.cell? ⟨w.heap.size, j, none⟩ = (boxOf ⟨3, u, v, a, 0, c, 0, imm⟩)[j]? := fun j => by
    rw [hw1]
    have e2 : ∀ o : Obj, ((w.alloc o).drewN m).cell? ⟨w.heap.size, j, none⟩ = (w.alloc o).cell? ⟨w.heap.size, j, none⟩ := fun _ => rfl
    rw [e2, World.cell?_alloc_new]
    rfl
  have d1 : w1.cell? ⟨w.heap.size, 1, none⟩ = some (.bool u) := hbox 1
  have d2 : w1.cell? ⟨w.heap.size, 2, none⟩ = some (.bool v) := hbox 2
  have d5 : w1.cell? ⟨w.heap.size, 5, none⟩ = some (.int .i64 c) := hbox 5
  have d7 : w1.cell? ⟨w.heap.size, 7, none⟩ = some (.int .i32 imm) := hbox 7
  have cpc1 := hM1.r_pc
  rw [← HPC.out] at cpc1
  have cf := hM1.r_fin
  have ff := hM1.frozen 26
  have ct := hM1.r_trap
  have ft := hM1.frozen 27
  have HM1 := Lib.hid hM1
  have HF1 := Lib.hid hF1
  clear hM1 hF1 hbox hw1 cpc
  go_wp2_with fail
  go_ret2
  exact br_some _ HO.out (fun _ => by rw [← HPC.out]) HM1.out HF1.out

set_option maxHeartbeats 1600000 in
theorem rbr_halt (h : Mach false w B q F cv mv iv ov s)  (a : Int) (ha : nib a) (hpc : s.pc ≤ 1048575) (hT : s.holds a = true)  :
    Calls Try.prog 43 #[.pointer (some ⟨q, 0, none⟩), insV ⟨3, false, true, a, 0, 12, 0, 0⟩] w (BrPost false w B q F cv mv iv ov s (s.branch ⟨3, false, true, a, 0, 12, 0, 0⟩)) := by
  have ho : s.branch ⟨3, false, true, a, 0, 12, 0, 0⟩ = some (s.pc + 1, { s with fin := 1 }) := by
    unfold St.branch
    rw [if_neg (by rw [hT]; simp), if_pos ⟨rfl, rfl, rfl⟩, if_pos rfl]
  have HO := Lib.hid ho
  have c12 := h.r_r 12 (by omega)
  clear ho
  have HH := Lib.hid (fun (W : World) (hW : Mach false W B q F cv mv iv ov s) => rholds_any hW a ha)
  have hHH := HH.out
  rw [hT] at hHH
  have HH2 := Lib.hid hHH
  have hp0 := h.fit.p0
  obtain ⟨PC, hPC⟩ : ∃ PC, PC = s.pc := ⟨_, rfl⟩
  rw [← hPC] at hpc hp0
  have HPC := Lib.hid hPC
  have H := Lib.hid h
  have hql : q < w.heap.size := (h.fb q h.fq).2
  have cpc := h.r_pc
  rw [← hPC] at cpc
  simp only [insV]
  clear HH hHH hPC h hT ha 
  go_enter Try.func43, Try.ntmps43
  go_wp2_with fail
  refine (HH2.out _ (H.out.alloc _)).mono ?_; rintro e w1 ⟨rfl, m, hw1⟩
  have hM1 : Mach false w1 B q F cv mv iv ov s := by rw [hw1]; exact (H.out.alloc _).drewN m
  have hF1 : Fr F w w1 := by rw [hw1]; exact ((Fr.refl F w).alloc _).drewN m
  have hbox : ∀ j, w1.cell? ⟨w.heap.size, j, none⟩ = (boxOf ⟨3, false, true, a, 0, 12, 0, 0⟩)[j]? := fun j => by
    rw [hw1]
    have e2 : ∀ o : Obj, ((w.alloc o).drewN m).cell? ⟨w.heap.size, j, none⟩ = (w.alloc o).cell? ⟨w.heap.size, j, none⟩ := fun _ => rfl
    rw [e2, World.cell?_alloc_new]
    rfl
  have d1 : w1.cell? ⟨w.heap.size, 1, none⟩ = some (.bool false) := hbox 1
  have d2 : w1.cell? ⟨w.heap.size, 2, none⟩ = some (.bool true) := hbox 2
  have d5 : w1.cell? ⟨w.heap.size, 5, none⟩ = some (.int .i64 12) := hbox 5
  have d7 : w1.cell? ⟨w.heap.size, 7, none⟩ = some (.int .i32 0) := hbox 7
  have cpc1 := hM1.r_pc
  rw [← HPC.out] at cpc1
  have cf := hM1.r_fin
  have ff := hM1.frozen 26
  have ct := hM1.r_trap
  have ft := hM1.frozen 27
  have HM1 := Lib.hid hM1
  have HF1 := Lib.hid hF1
  clear hM1 hF1 hbox hw1 cpc
  have c12' := HM1.out.r_r 12 (by omega)
  have c12b : w1.cell? ⟨q, 14, none⟩ = some (.int .u32 (s.r.getD 12 0)) := c12'
  clear c12 c12'
  go_wp2_with fail
  go_ret2
  refine br_some _ HO.out (fun h => by cases h) ?_ ?_
  · first | exact HM1.out.rset_fin 1 | exact (HM1.out.drewN _).rset_fin 1
  · first | exact HF1.out.setCell (p := ⟨q, 26, none⟩) (.inr H.out.fq) _ | exact (HF1.out.drewN _).setCell (p := ⟨q, 26, none⟩) (.inr H.out.fq) _

set_option maxHeartbeats 1600000 in
theorem rbr_trap (h : Mach false w B q F cv mv iv ov s) (imm : Int) (a : Int) (ha : nib a) (hpc : s.pc ≤ 1048575) (hT : s.holds a = true)  (hi0 : 1 ≤ imm) (hi1 : imm < 16) :
    Calls Try.prog 43 #[.pointer (some ⟨q, 0, none⟩), insV ⟨3, false, true, a, 0, 12, 0, imm⟩] w (BrPost false w B q F cv mv iv ov s (s.branch ⟨3, false, true, a, 0, 12, 0, imm⟩)) := by
  have ho : s.branch ⟨3, false, true, a, 0, 12, 0, imm⟩ = some (s.pc + 1, { s with fin := 2, trap := imm }) := by
    unfold St.branch
    rw [if_neg (by rw [hT]; simp), if_pos ⟨rfl, rfl, rfl⟩, if_neg (by simp only; omega)]
  have HO := Lib.hid ho
  have c12 := h.r_r 12 (by omega)
  clear ho
  have HH := Lib.hid (fun (W : World) (hW : Mach false W B q F cv mv iv ov s) => rholds_any hW a ha)
  have hHH := HH.out
  rw [hT] at hHH
  have HH2 := Lib.hid hHH
  have hp0 := h.fit.p0
  obtain ⟨PC, hPC⟩ : ∃ PC, PC = s.pc := ⟨_, rfl⟩
  rw [← hPC] at hpc hp0
  have HPC := Lib.hid hPC
  have H := Lib.hid h
  have hql : q < w.heap.size := (h.fb q h.fq).2
  have cpc := h.r_pc
  rw [← hPC] at cpc
  simp only [insV]
  clear HH hHH hPC h hT ha 
  go_enter Try.func43, Try.ntmps43
  go_wp2_with fail
  refine (HH2.out _ (H.out.alloc _)).mono ?_; rintro e w1 ⟨rfl, m, hw1⟩
  have hM1 : Mach false w1 B q F cv mv iv ov s := by rw [hw1]; exact (H.out.alloc _).drewN m
  have hF1 : Fr F w w1 := by rw [hw1]; exact ((Fr.refl F w).alloc _).drewN m
  have hbox : ∀ j, w1.cell? ⟨w.heap.size, j, none⟩ = (boxOf ⟨3, false, true, a, 0, 12, 0, imm⟩)[j]? := fun j => by
    rw [hw1]
    have e2 : ∀ o : Obj, ((w.alloc o).drewN m).cell? ⟨w.heap.size, j, none⟩ = (w.alloc o).cell? ⟨w.heap.size, j, none⟩ := fun _ => rfl
    rw [e2, World.cell?_alloc_new]
    rfl
  have d1 : w1.cell? ⟨w.heap.size, 1, none⟩ = some (.bool false) := hbox 1
  have d2 : w1.cell? ⟨w.heap.size, 2, none⟩ = some (.bool true) := hbox 2
  have d5 : w1.cell? ⟨w.heap.size, 5, none⟩ = some (.int .i64 12) := hbox 5
  have d7 : w1.cell? ⟨w.heap.size, 7, none⟩ = some (.int .i32 imm) := hbox 7
  have cpc1 := hM1.r_pc
  rw [← HPC.out] at cpc1
  have cf := hM1.r_fin
  have ff := hM1.frozen 26
  have ct := hM1.r_trap
  have ft := hM1.frozen 27
  have HM1 := Lib.hid hM1
  have HF1 := Lib.hid hF1
  clear hM1 hF1 hbox hw1 cpc
  have c12' := HM1.out.r_r 12 (by omega)
  have c12b : w1.cell? ⟨q, 14, none⟩ = some (.int .u32 (s.r.getD 12 0)) := c12'
  clear c12 c12'
  have qi : (imm == 0) = false := by simp; omega
  go_wp2_with fail
  go_region
  go_wp2_with fail
  go_ret2
  refine br_some _ HO.out (fun h => by cases h) ?_ ?_
  · first
      | exact ((((HM1.out.drewN _).rset_fin 1).rset_fin 2).rset_trap imm).drew
      | exact (((HM1.out.drewN _).rset_fin 1).rset_fin 2).rset_trap imm
      | exact ((HM1.out.rset_fin 1).rset_fin 2).rset_trap imm
      | exact ((((HM1.out.rset_fin 1).drewN _).rset_fin 2).rset_trap imm)
      | exact ((((((HM1.out.drewN _).rset_fin 1)).drewN _).rset_fin 2).rset_trap imm)
  · first
      | exact ((((HF1.out.drewN _).setCell (p := ⟨q, 26, none⟩) (.inr H.out.fq) _).setCell (p := ⟨q, 26, none⟩) (.inr H.out.fq) _).setCell (p := ⟨q, 27, none⟩) (.inr H.out.fq) _).drew
      | exact (((HF1.out.drewN _).setCell (p := ⟨q, 26, none⟩) (.inr H.out.fq) _).setCell (p := ⟨q, 26, none⟩) (.inr H.out.fq) _).setCell (p := ⟨q, 27, none⟩) (.inr H.out.fq) _
      | exact ((HF1.out.setCell (p := ⟨q, 26, none⟩) (.inr H.out.fq) _).setCell (p := ⟨q, 26, none⟩) (.inr H.out.fq) _).setCell (p := ⟨q, 27, none⟩) (.inr H.out.fq) _

set_option maxHeartbeats 1600000 in
theorem rbr_rel_low (h : Mach false w B q F cv mv iv ov s) (v : Bool) (imm : Int) (a : Int) (ha : nib a) (hpc : s.pc ≤ 1048575) (hT : s.holds a = true)  (hi0 : -8388608 ≤ imm) (hi1 : imm < 8388608) (ht : s.pc + 1 + imm < 0) :
    Calls Try.prog 43 #[.pointer (some ⟨q, 0, none⟩), insV ⟨3, true, v, a, 0, 0, 0, imm⟩] w (BrPost false w B q F cv mv iv ov s (s.branch ⟨3, true, v, a, 0, 0, 0, imm⟩)) := by
  have ho : s.branch ⟨3, true, v, a, 0, 0, 0, imm⟩ = none := by
    unfold St.branch
    rw [if_neg (by rw [hT]; simp), if_neg (by rintro ⟨h1, _⟩; cases h1)]
    simp only [if_true]
    rw [if_pos (by omega)]
  have HO := Lib.hid ho
  clear ho
  have HH := Lib.hid (fun (W : World) (hW : Mach false W B q F cv mv iv ov s) => rholds_any hW a ha)
  have hHH := HH.out
  rw [hT] at hHH
  have HH2 := Lib.hid hHH
  have hp0 := h.fit.p0
  obtain ⟨PC, hPC⟩ : ∃ PC, PC = s.pc := ⟨_, rfl⟩
  rw [← hPC] at hpc hp0 ht
  have HPC := Lib.hid hPC
  have H := Lib.hid h
  have hql : q < w.heap.size := (h.fb q h.fq).2
  have cpc := h.r_pc
  rw [← hPC] at cpc
  simp only [insV]
  clear HH hHH hPC h hT ha 
  go_enter Try.func43, Try.ntmps43
  go_wp2_with fail
  refine (HH2.out _ (H.out.alloc _)).mono ?_; rintro e w1 ⟨rfl, m, hw1⟩
  have hM1 : Mach false w1 B q F cv mv iv ov s := by rw [hw1]; exact (H.out.alloc _).drewN m
  have hF1 : Fr F w w1 := by rw [hw1]; exact ((Fr.refl F w).alloc _).drewN m
  have hbox : ∀ j, w1.cell? ⟨w.heap.size, j, none⟩ = (boxOf ⟨3, true, v, a, 0, 0, 0, imm⟩)[j]? := fun j => by
    rw [hw1]
    have e2 : ∀ o : Obj, ((w.alloc o).drewN m).cell? ⟨w.heap.size, j, none⟩ = (w.alloc o).cell? ⟨w.heap.size, j, none⟩ := fun _ => rfl
    rw [e2, World.cell?_alloc_new]
    rfl
  have d1 : w1.cell? ⟨w.heap.size, 1, none⟩ = some (.bool true) := hbox 1
  have d2 : w1.cell? ⟨w.heap.size, 2, none⟩ = some (.bool v) := hbox 2
  have d5 : w1.cell? ⟨w.heap.size, 5, none⟩ = some (.int .i64 0) := hbox 5
  have d7 : w1.cell? ⟨w.heap.size, 7, none⟩ = some (.int .i32 imm) := hbox 7
  have cpc1 := hM1.r_pc
  rw [← HPC.out] at cpc1
  have cf := hM1.r_fin
  have ff := hM1.frozen 26
  have ct := hM1.r_trap
  have ft := hM1.frozen 27
  have HM1 := Lib.hid hM1
  have HF1 := Lib.hid hF1
  clear hM1 hF1 hbox hw1 cpc
  go_wp2_with fail
  go_quiet (fail)
  go_wp2_with fail
  go_ret2
  exact br_none _ HO.out (by first | exact HM1.out | exact HM1.out.drewN _) (by first | exact HF1.out | exact HF1.out.drewN _)

set_option maxHeartbeats 1600000 in
theorem rbr_rel_high (h : Mach false w B q F cv mv iv ov s) (v : Bool) (imm : Int) (a : Int) (ha : nib a) (hpc : s.pc ≤ 1048575) (hT : s.holds a = true)  (hi0 : -8388608 ≤ imm) (hi1 : imm < 8388608) (ht0 : 0 ≤ s.pc + 1 + imm) (ht : 1048576 < s.pc + 1 + imm) :
    Calls Try.prog 43 #[.pointer (some ⟨q, 0, none⟩), insV ⟨3, true, v, a, 0, 0, 0, imm⟩] w (BrPost false w B q F cv mv iv ov s (s.branch ⟨3, true, v, a, 0, 0, 0, imm⟩)) := by
  have ho : s.branch ⟨3, true, v, a, 0, 0, 0, imm⟩ = none := by
    unfold St.branch
    rw [if_neg (by rw [hT]; simp), if_neg (by rintro ⟨h1, _⟩; cases h1)]
    simp only [if_true]
    rw [if_pos (by omega)]
  have HO := Lib.hid ho
  clear ho
  have HH := Lib.hid (fun (W : World) (hW : Mach false W B q F cv mv iv ov s) => rholds_any hW a ha)
  have hHH := HH.out
  rw [hT] at hHH
  have HH2 := Lib.hid hHH
  have hp0 := h.fit.p0
  obtain ⟨PC, hPC⟩ : ∃ PC, PC = s.pc := ⟨_, rfl⟩
  rw [← hPC] at hpc hp0 ht ht0
  have HPC := Lib.hid hPC
  have H := Lib.hid h
  have hql : q < w.heap.size := (h.fb q h.fq).2
  have cpc := h.r_pc
  rw [← hPC] at cpc
  simp only [insV]
  clear HH hHH hPC h hT ha 
  go_enter Try.func43, Try.ntmps43
  go_wp2_with fail
  refine (HH2.out _ (H.out.alloc _)).mono ?_; rintro e w1 ⟨rfl, m, hw1⟩
  have hM1 : Mach false w1 B q F cv mv iv ov s := by rw [hw1]; exact (H.out.alloc _).drewN m
  have hF1 : Fr F w w1 := by rw [hw1]; exact ((Fr.refl F w).alloc _).drewN m
  have hbox : ∀ j, w1.cell? ⟨w.heap.size, j, none⟩ = (boxOf ⟨3, true, v, a, 0, 0, 0, imm⟩)[j]? := fun j => by
    rw [hw1]
    have e2 : ∀ o : Obj, ((w.alloc o).drewN m).cell? ⟨w.heap.size, j, none⟩ = (w.alloc o).cell? ⟨w.heap.size, j, none⟩ := fun _ => rfl
    rw [e2, World.cell?_alloc_new]
    rfl
  have d1 : w1.cell? ⟨w.heap.size, 1, none⟩ = some (.bool true) := hbox 1
  have d2 : w1.cell? ⟨w.heap.size, 2, none⟩ = some (.bool v) := hbox 2
  have d5 : w1.cell? ⟨w.heap.size, 5, none⟩ = some (.int .i64 0) := hbox 5
  have d7 : w1.cell? ⟨w.heap.size, 7, none⟩ = some (.int .i32 imm) := hbox 7
  have cpc1 := hM1.r_pc
  rw [← HPC.out] at cpc1
  have cf := hM1.r_fin
  have ff := hM1.frozen 26
  have ct := hM1.r_trap
  have ft := hM1.frozen 27
  have HM1 := Lib.hid hM1
  have HF1 := Lib.hid hF1
  clear hM1 hF1 hbox hw1 cpc
  go_wp2_with fail
  go_quiet (fail)
  go_wp2_with fail
  go_ret2
  exact br_none _ HO.out (by first | exact HM1.out | exact HM1.out.drewN _) (by first | exact HF1.out | exact HF1.out.drewN _)

set_option maxHeartbeats 1600000 in
theorem rbr_rel_plain (h : Mach false w B q F cv mv iv ov s) (imm : Int) (a : Int) (ha : nib a) (hpc : s.pc ≤ 1048575) (hT : s.holds a = true)  (hi0 : -8388608 ≤ imm) (hi1 : imm < 8388608) (ht0 : 0 ≤ s.pc + 1 + imm) (ht : s.pc + 1 + imm ≤ 1048576) :
    Calls Try.prog 43 #[.pointer (some ⟨q, 0, none⟩), insV ⟨3, true, false, a, 0, 0, 0, imm⟩] w (BrPost false w B q F cv mv iv ov s (s.branch ⟨3, true, false, a, 0, 0, 0, imm⟩)) := by
  have ho : s.branch ⟨3, true, false, a, 0, 0, 0, imm⟩ = some (s.pc + 1 + imm, s) := by
    unfold St.branch
    rw [if_neg (by rw [hT]; simp), if_neg (by rintro ⟨h1, _⟩; cases h1)]
    simp only [if_true]
    rw [if_neg (by omega)]
    rw [if_neg (by simp)]
  have HO := Lib.hid ho
  clear ho
  have HH := Lib.hid (fun (W : World) (hW : Mach false W B q F cv mv iv ov s) => rholds_any hW a ha)
  have hHH := HH.out
  rw [hT] at hHH
  have HH2 := Lib.hid hHH
  have hp0 := h.fit.p0
  obtain ⟨PC, hPC⟩ : ∃ PC, PC = s.pc := ⟨_, rfl⟩
  rw [← hPC] at hpc hp0 ht ht0
  have HPC := Lib.hid hPC
  have H := Lib.hid h
  have hql : q < w.heap.size := (h.fb q h.fq).2
  have cpc := h.r_pc
  rw [← hPC] at cpc
  simp only [insV]
  clear HH hHH hPC h hT ha 
  go_enter Try.func43, Try.ntmps43
  go_wp2_with fail
  refine (HH2.out _ (H.out.alloc _)).mono ?_; rintro e w1 ⟨rfl, m, hw1⟩
  have hM1 : Mach false w1 B q F cv mv iv ov s := by rw [hw1]; exact (H.out.alloc _).drewN m
  have hF1 : Fr F w w1 := by rw [hw1]; exact ((Fr.refl F w).alloc _).drewN m
  have hbox : ∀ j, w1.cell? ⟨w.heap.size, j, none⟩ = (boxOf ⟨3, true, false, a, 0, 0, 0, imm⟩)[j]? := fun j => by
    rw [hw1]
    have e2 : ∀ o : Obj, ((w.alloc o).drewN m).cell? ⟨w.heap.size, j, none⟩ = (w.alloc o).cell? ⟨w.heap.size, j, none⟩ := fun _ => rfl
    rw [e2, World.cell?_alloc_new]
    rfl
  have d1 : w1.cell? ⟨w.heap.size, 1, none⟩ = some (.bool true) := hbox 1
  have d2 : w1.cell? ⟨w.heap.size, 2, none⟩ = some (.bool false) := hbox 2
  have d5 : w1.cell? ⟨w.heap.size, 5, none⟩ = some (.int .i64 0) := hbox 5
  have d7 : w1.cell? ⟨w.heap.size, 7, none⟩ = some (.int .i32 imm) := hbox 7
  have cpc1 := hM1.r_pc
  rw [← HPC.out] at cpc1
  have cf := hM1.r_fin
  have ff := hM1.frozen 26
  have ct := hM1.r_trap
  have ft := hM1.frozen 27
  have HM1 := Lib.hid hM1
  have HF1 := Lib.hid hF1
  clear hM1 hF1 hbox hw1 cpc
  go_wp2_with fail
  go_quiet (fail)
  go_wp2_with fail
  go_ret2
  exact br_some _ HO.out (fun _ => by first | (rw [← HPC.out]) | (rw [HTV.out])) (by first | exact HM1.out | exact HM1.out.drewN _) (by first | exact HF1.out | exact HF1.out.drewN _)

set_option maxHeartbeats 1600000 in
theorem rbr_rel_link (h : Mach false w B q F cv mv iv ov s) (imm : Int) (a : Int) (ha : nib a) (hpc : s.pc ≤ 1048575) (hT : s.holds a = true)  (hi0 : -8388608 ≤ imm) (hi1 : imm < 8388608) (ht0 : 0 ≤ s.pc + 1 + imm) (ht : s.pc + 1 + imm ≤ 1048576) :
    Calls Try.prog 43 #[.pointer (some ⟨q, 0, none⟩), insV ⟨3, true, true, a, 0, 0, 0, imm⟩] w (BrPost false w B q F cv mv iv ov s (s.branch ⟨3, true, true, a, 0, 0, 0, imm⟩)) := by
  have ho : s.branch ⟨3, true, true, a, 0, 0, 0, imm⟩ = some (s.pc + 1 + imm, { s with r := s.r.set 15 (cut32 (s.pc + 1)) }) := by
    unfold St.branch
    rw [if_neg (by rw [hT]; simp), if_neg (by rintro ⟨h1, _⟩; cases h1)]
    simp only [if_true]
    rw [if_neg (by omega)]
    try rw [if_pos rfl]
  have HO := Lib.hid ho
  clear ho
  have HH := Lib.hid (fun (W : World) (hW : Mach false W B q F cv mv iv ov s) => rholds_any hW a ha)
  have hHH := HH.out
  rw [hT] at hHH
  have HH2 := Lib.hid hHH
  have hp0 := h.fit.p0
  obtain ⟨PC, hPC⟩ : ∃ PC, PC = s.pc := ⟨_, rfl⟩
  rw [← hPC] at hpc hp0 ht ht0
  have HPC := Lib.hid hPC
  have H := Lib.hid h
  have hql : q < w.heap.size := (h.fb q h.fq).2
  have cpc := h.r_pc
  rw [← hPC] at cpc
  simp only [insV]
  clear HH hHH hPC h hT ha 
  go_enter Try.func43, Try.ntmps43
  go_wp2_with fail
  refine (HH2.out _ (H.out.alloc _)).mono ?_; rintro e w1 ⟨rfl, m, hw1⟩
  have hM1 : Mach false w1 B q F cv mv iv ov s := by rw [hw1]; exact (H.out.alloc _).drewN m
  have hF1 : Fr F w w1 := by rw [hw1]; exact ((Fr.refl F w).alloc _).drewN m
  have hbox : ∀ j, w1.cell? ⟨w.heap.size, j, none⟩ = (boxOf ⟨3, true, true, a, 0, 0, 0, imm⟩)[j]? := fun j => by
    rw [hw1]
    have e2 : ∀ o : Obj, ((w.alloc o).drewN m).cell? ⟨w.heap.size, j, none⟩ = (w.alloc o).cell? ⟨w.heap.size, j, none⟩ := fun _ => rfl
    rw [e2, World.cell?_alloc_new]
    rfl
  have d1 : w1.cell? ⟨w.heap.size, 1, none⟩ = some (.bool true) := hbox 1
  have d2 : w1.cell? ⟨w.heap.size, 2, none⟩ = some (.bool true) := hbox 2
  have d5 : w1.cell? ⟨w.heap.size, 5, none⟩ = some (.int .i64 0) := hbox 5
  have d7 : w1.cell? ⟨w.heap.size, 7, none⟩ = some (.int .i32 imm) := hbox 7
  have cpc1 := hM1.r_pc
  rw [← HPC.out] at cpc1
  have cf := hM1.r_fin
  have ff := hM1.frozen 26
  have ct := hM1.r_trap
  have ft := hM1.frozen 27
  have HM1 := Lib.hid hM1
  have HF1 := Lib.hid hF1
  clear hM1 hF1 hbox hw1 cpc
  have c15 : w1.cell? ⟨q, 17, none⟩ = some (.int .u32 (s.r.getD 15 0)) := HM1.out.r_r 15 (by omega)
  have f15 := HM1.out.frozen 17
  go_wp2_with fail
  go_quiet (fail)
  go_wp2_with fail
  go_region
  go_wp2_with fail
  go_ret2
  have hw : W32 (PC + 1) := ⟨by omega, by omega⟩
  have ec : cut32 (s.pc + 1) = PC + 1 := by rw [← HPC.out]; unfold cut32; omega
  have ho := HO.out
  rw [ec] at ho
  exact br_some _ ho (fun _ => by first | (rw [← HPC.out]) | (rw [HTV.out])) (by first | exact HM1.out.rset_r 15 (by omega) (PC + 1) hw | exact (HM1.out.drewN _).rset_r 15 (by omega) (PC + 1) hw) (by first | exact HF1.out.setCell (p := ⟨q, 17, none⟩) (.inr H.out.fq) _ | exact (HF1.out.drewN _).setCell (p := ⟨q, 17, none⟩) (.inr H.out.fq) _)

set_option maxHeartbeats 1600000 in
theorem rbr_reg_high (h : Mach false w B q F cv mv iv ov s) (v : Bool) (c imm : Int) (a : Int) (ha : nib a) (hpc : s.pc ≤ 1048575) (hT : s.holds a = true)  (hc : nib c) (hc12 : v = true → c ≠ 12) (ht0 : 0 ≤ s.rg c) (ht : 1048576 < s.rg c) :
    Calls Try.prog 43 #[.pointer (some ⟨q, 0, none⟩), insV ⟨3, false, v, a, 0, c, 0, imm⟩] w (BrPost false w B q F cv mv iv ov s (s.branch ⟨3, false, v, a, 0, c, 0, imm⟩)) := by
  have ho : s.branch ⟨3, false, v, a, 0, c, 0, imm⟩ = none := by
    unfold St.branch
    rw [if_neg (by rw [hT]; simp), if_neg (by rintro ⟨_, h2, h3⟩; exact hc12 h2 h3)]
    simp only [Bool.false_eq_true, if_false]
    rw [if_pos (by omega)]
  have HO := Lib.hid ho
  clear ho
  obtain ⟨cn, rfl⟩ := Int.eq_ofNat_of_zero_le hc.1
  have hcn : cn < 16 := by have := (show (cn : Int) < 16 from hc.2); omega
  obtain ⟨Tv, hTv⟩ : ∃ Tv, Tv = s.rg cn := ⟨_, rfl⟩
  rw [← hTv] at ht0 ht
  have ht2 : Tv ≤ 4294967295 := by have := (h.fit.rg (cn : Int) hc).2; rw [hTv]; omega
  have HTV := Lib.hid hTv
  clear hTv
  have HC12 := Lib.hid hc12
  have HH := Lib.hid (fun (W : World) (hW : Mach false W B q F cv mv iv ov s) => rholds_any hW a ha)
  have hHH := HH.out
  rw [hT] at hHH
  have HH2 := Lib.hid hHH
  have hp0 := h.fit.p0
  obtain ⟨PC, hPC⟩ : ∃ PC, PC = s.pc := ⟨_, rfl⟩
  rw [← hPC] at hpc hp0
  have HPC := Lib.hid hPC
  have H := Lib.hid h
  have hql : q < w.heap.size := (h.fb q h.fq).2
  have cpc := h.r_pc
  rw [← hPC] at cpc
  simp only [insV]
  clear HH hHH hPC h hT ha hc hc12
  go_enter Try.func43, Try.ntmps43
  go_wp2_with fail
  refine (HH2.out _ (H.out.alloc _)).mono ?_; rintro e w1 ⟨rfl, m, hw1⟩
  have hM1 : Mach false w1 B q F cv mv iv ov s := by rw [hw1]; exact (H.out.alloc _).drewN m
  have hF1 : Fr F w w1 := by rw [hw1]; exact ((Fr.refl F w).alloc _).drewN m
  have hbox : ∀ j, w1.cell? ⟨w.heap.size, j, none⟩ = (boxOf ⟨3, false, v, a, 0, (cn : Int), 0, imm⟩)[j]? := fun j => by
    rw [hw1]
    have e2 : ∀ o : Obj, ((w.alloc o).drewN m).cell? ⟨w.heap.size, j, none⟩ = (w.alloc o).cell? ⟨w.heap.size, j, none⟩ := fun _ => rfl
    rw [e2, World.cell?_alloc_new]
    rfl
  have d1 : w1.cell? ⟨w.heap.size, 1, none⟩ = some (.bool false) := hbox 1
  have d2 : w1.cell? ⟨w.heap.size, 2, none⟩ = some (.bool v) := hbox 2
  have d5 : w1.cell? ⟨w.heap.size, 5, none⟩ = some (.int .i64 (cn : Int)) := hbox 5
  have d7 : w1.cell? ⟨w.heap.size, 7, none⟩ = some (.int .i32 imm) := hbox 7
  have cpc1 := hM1.r_pc
  rw [← HPC.out] at cpc1
  have cf := hM1.r_fin
  have ff := hM1.frozen 26
  have ct := hM1.r_trap
  have ft := hM1.frozen 27
  have HM1 := Lib.hid hM1
  have HF1 := Lib.hid hF1
  clear hM1 hF1 hbox hw1 cpc
  have ccn := HM1.out.r_r cn hcn
  have eT : s.r.getD cn 0 = Tv := HTV.out.symm
  rw [eT] at ccn
  clear eT
  cases v with
  | false =>
    go_wp2_with fail
    go_quiet (fail)
    go_wp2_with fail
    go_quiet (fail)
    go_wp2_with fail
    go_ret2
    exact br_none _ HO.out (by first | exact HM1.out | exact HM1.out.drewN _) (by first | exact HF1.out | exact HF1.out.drewN _)
  | true =>
    have q12 : ((cn : Int) == 12) = false := by simp; exact fun e => HC12.out rfl (by omega)
    go_wp2_with fail
    go_quiet (fail)
    go_wp2_with fail
    go_quiet (fail)
    go_wp2_with fail
    go_ret2
    exact br_none _ HO.out (by first | exact HM1.out | exact HM1.out.drewN _) (by first | exact HF1.out | exact HF1.out.drewN _)

set_option maxHeartbeats 1600000 in
theorem rbr_reg_plain (h : Mach false w B q F cv mv iv ov s) (c imm : Int) (a : Int) (ha : nib a) (hpc : s.pc ≤ 1048575) (hT : s.holds a = true)  (hc : nib c) (ht0 : 0 ≤ s.rg c) (ht : s.rg c ≤ 1048576) :
    Calls Try.prog 43 #[.pointer (some ⟨q, 0, none⟩), insV ⟨3, false, false, a, 0, c, 0, imm⟩] w (BrPost false w B q F cv mv iv ov s (s.branch ⟨3, false, false, a, 0, c, 0, imm⟩)) := by
  have ho : s.branch ⟨3, false, false, a, 0, c, 0, imm⟩ = some (s.rg c, s) := by
    unfold St.branch
    rw [if_neg (by rw [hT]; simp), if_neg (by rintro ⟨_, h2, _⟩; cases h2)]
    simp only [Bool.false_eq_true, if_false]
    rw [if_neg (by omega)]
    try simp
  have HO := Lib.hid ho
  clear ho
  obtain ⟨cn, rfl⟩ := Int.eq_ofNat_of_zero_le hc.1
  have hcn : cn < 16 := by have := (show (cn : Int) < 16 from hc.2); omega
  obtain ⟨Tv, hTv⟩ : ∃ Tv, Tv = s.rg cn := ⟨_, rfl⟩
  rw [← hTv] at ht0 ht
  have ht2 : Tv ≤ 4294967295 := by have := (h.fit.rg (cn : Int) hc).2; rw [hTv]; omega
  have HTV := Lib.hid hTv
  clear hTv
  have HH := Lib.hid (fun (W : World) (hW : Mach false W B q F cv mv iv ov s) => rholds_any hW a ha)
  have hHH := HH.out
  rw [hT] at hHH
  have HH2 := Lib.hid hHH
  have hp0 := h.fit.p0
  obtain ⟨PC, hPC⟩ : ∃ PC, PC = s.pc := ⟨_, rfl⟩
  rw [← hPC] at hpc hp0
  have HPC := Lib.hid hPC
  have H := Lib.hid h
  have hql : q < w.heap.size := (h.fb q h.fq).2
  have cpc := h.r_pc
  rw [← hPC] at cpc
  simp only [insV]
  clear HH hHH hPC h hT ha hc
  go_enter Try.func43, Try.ntmps43
  go_wp2_with fail
  refine (HH2.out _ (H.out.alloc _)).mono ?_; rintro e w1 ⟨rfl, m, hw1⟩
  have hM1 : Mach false w1 B q F cv mv iv ov s := by rw [hw1]; exact (H.out.alloc _).drewN m
  have hF1 : Fr F w w1 := by rw [hw1]; exact ((Fr.refl F w).alloc _).drewN m
  have hbox : ∀ j, w1.cell? ⟨w.heap.size, j, none⟩ = (boxOf ⟨3, false, false, a, 0, (cn : Int), 0, imm⟩)[j]? := fun j => by
    rw [hw1]
    have e2 : ∀ o : Obj, ((w.alloc o).drewN m).cell? ⟨w.heap.size, j, none⟩ = (w.alloc o).cell? ⟨w.heap.size, j, none⟩ := fun _ => rfl
    rw [e2, World.cell?_alloc_new]
    rfl
  have d1 : w1.cell? ⟨w.heap.size, 1, none⟩ = some (.bool false) := hbox 1
  have d2 : w1.cell? ⟨w.heap.size, 2, none⟩ = some (.bool false) := hbox 2
  have d5 : w1.cell? ⟨w.heap.size, 5, none⟩ = some (.int .i64 (cn : Int)) := hbox 5
  have d7 : w1.cell? ⟨w.heap.size, 7, none⟩ = some (.int .i32 imm) := hbox 7
  have cpc1 := hM1.r_pc
  rw [← HPC.out] at cpc1
  have cf := hM1.r_fin
  have ff := hM1.frozen 26
  have ct := hM1.r_trap
  have ft := hM1.frozen 27
  have HM1 := Lib.hid hM1
  have HF1 := Lib.hid hF1
  clear hM1 hF1 hbox hw1 cpc
  have ccn := HM1.out.r_r cn hcn
  have eT : s.r.getD cn 0 = Tv := HTV.out.symm
  rw [eT] at ccn
  clear eT
  go_wp2_with fail
  go_quiet (fail)
  go_wp2_with fail
  go_quiet (fail)
  go_wp2_with fail
  go_ret2
  exact br_some _ HO.out (fun _ => by first | (rw [← HPC.out]) | (rw [HTV.out])) (by first | exact HM1.out | exact HM1.out.drewN _) (by first | exact HF1.out | exact HF1.out.drewN _)

set_option maxHeartbeats 1600000 in
theorem rbr_reg_link (h : Mach false w B q F cv mv iv ov s) (c imm : Int) (a : Int) (ha : nib a) (hpc : s.pc ≤ 1048575) (hT : s.holds a = true)  (hc : nib c) (hc12 : c ≠ 12) (ht0 : 0 ≤ s.rg c) (ht : s.rg c ≤ 1048576) :
    Calls Try.prog 43 #[.pointer (some ⟨q, 0, none⟩), insV ⟨3, false, true, a, 0, c, 0, imm⟩] w (BrPost false w B q F cv mv iv ov s (s.branch ⟨3, false, true, a, 0, c, 0, imm⟩)) := by
  have ho : s.branch ⟨3, false, true, a, 0, c, 0, imm⟩ = some (s.rg c, { s with r := s.r.set 15 (cut32 (s.pc + 1)) }) := by
    unfold St.branch
    rw [if_neg (by rw [hT]; simp), if_neg (by rintro ⟨_, _, h3⟩; exact hc12 h3)]
    simp only [Bool.false_eq_true, if_false]
    rw [if_neg (by omega)]
    try simp
  have HO := Lib.hid ho
  clear ho
  obtain ⟨cn, rfl⟩ := Int.eq_ofNat_of_zero_le hc.1
  have hcn : cn < 16 := by have := (show (cn : Int) < 16 from hc.2); omega
  obtain ⟨Tv, hTv⟩ : ∃ Tv, Tv = s.rg cn := ⟨_, rfl⟩
  rw [← hTv] at ht0 ht
  have ht2 : Tv ≤ 4294967295 := by have := (h.fit.rg (cn : Int) hc).2; rw [hTv]; omega
  have HTV := Lib.hid hTv
  clear hTv
  have HH := Lib.hid (fun (W : World) (hW : Mach false W B q F cv mv iv ov s) => rholds_any hW a ha)
  have hHH := HH.out
  rw [hT] at hHH
  have HH2 := Lib.hid hHH
  have hp0 := h.fit.p0
  obtain ⟨PC, hPC⟩ : ∃ PC, PC = s.pc := ⟨_, rfl⟩
  rw [← hPC] at hpc hp0
  have HPC := Lib.hid hPC
  have H := Lib.hid h
  have hql : q < w.heap.size := (h.fb q h.fq).2
  have cpc := h.r_pc
  rw [← hPC] at cpc
  simp only [insV]
  clear HH hHH hPC h hT ha hc
  go_enter Try.func43, Try.ntmps43
  go_wp2_with fail
  refine (HH2.out _ (H.out.alloc _)).mono ?_; rintro e w1 ⟨rfl, m, hw1⟩
  have hM1 : Mach false w1 B q F cv mv iv ov s := by rw [hw1]; exact (H.out.alloc _).drewN m
  have hF1 : Fr F w w1 := by rw [hw1]; exact ((Fr.refl F w).alloc _).drewN m
  have hbox : ∀ j, w1.cell? ⟨w.heap.size, j, none⟩ = (boxOf ⟨3, false, true, a, 0, (cn : Int), 0, imm⟩)[j]? := fun j => by
    rw [hw1]
    have e2 : ∀ o : Obj, ((w.alloc o).drewN m).cell? ⟨w.heap.size, j, none⟩ = (w.alloc o).cell? ⟨w.heap.size, j, none⟩ := fun _ => rfl
    rw [e2, World.cell?_alloc_new]
    rfl
  have d1 : w1.cell? ⟨w.heap.size, 1, none⟩ = some (.bool false) := hbox 1
  have d2 : w1.cell? ⟨w.heap.size, 2, none⟩ = some (.bool true) := hbox 2
  have d5 : w1.cell? ⟨w.heap.size, 5, none⟩ = some (.int .i64 (cn : Int)) := hbox 5
  have d7 : w1.cell? ⟨w.heap.size, 7, none⟩ = some (.int .i32 imm) := hbox 7
  have cpc1 := hM1.r_pc
  rw [← HPC.out] at cpc1
  have cf := hM1.r_fin
  have ff := hM1.frozen 26
  have ct := hM1.r_trap
  have ft := hM1.frozen 27
  have HM1 := Lib.hid hM1
  have HF1 := Lib.hid hF1
  clear hM1 hF1 hbox hw1 cpc
  have ccn := HM1.out.r_r cn hcn
  have eT : s.r.getD cn 0 = Tv := HTV.out.symm
  rw [eT] at ccn
  clear eT
  have q12 : ((cn : Int) == 12) = false := by simp; exact fun e => hc12 (by omega)
  have c15 : w1.cell? ⟨q, 17, none⟩ = some (.int .u32 (s.r.getD 15 0)) := HM1.out.r_r 15 (by omega)
  have f15 := HM1.out.frozen 17
  go_wp2_with fail
  go_quiet (fail)
  go_wp2_with fail
  go_quiet (fail)
  go_wp2_with fail
  go_region
  go_wp2_with fail
  go_ret2
  have hw : W32 (PC + 1) := ⟨by omega, by omega⟩
  have ec : cut32 (s.pc + 1) = PC + 1 := by rw [← HPC.out]; unfold cut32; omega
  have ho := HO.out
  rw [ec] at ho
  exact br_some _ ho (fun _ => by first | (rw [← HPC.out]) | (rw [HTV.out])) (by first | exact HM1.out.rset_r 15 (by omega) (PC + 1) hw | exact (HM1.out.drewN _).rset_r 15 (by omega) (PC + 1) hw) (by first | exact HF1.out.setCell (p := ⟨q, 17, none⟩) (.inr H.out.fq) _ | exact (HF1.out.drewN _).setCell (p := ⟨q, 17, none⟩) (.inr H.out.fq) _)

theorem pbranch_any (h : Mach true w B q F cv mv iv ov s) (i : Ins) (hR : Right i) (h3 : i.f = 3) (hpc : s.pc ≤ 1048575) :
    Calls Try.prog 35 #[.pointer (some ⟨q, 0, none⟩), insV i] w (BrPost true w B q F cv mv iv ov s (s.branch i)) := by
  obtain ⟨f, u, v, a, bb, c, op, imm⟩ := i
  obtain rfl : f = 3 := h3
  obtain ⟨ha, hb, hc, ho, h5⟩ := hR
  rcases h5 with ⟨e, _⟩ | ⟨e, _⟩ | ⟨e, _⟩ | ⟨_, hb0, ho0, hu, hc0, hi0, hi1⟩ | ⟨_, hb0, ho0, hu, hi0, hi1⟩
  · simp at e
  · simp at e
  · simp at e
  · simp only at ha hb0 ho0 hu hc0 hi0 hi1
    subst hb0 ho0 hu hc0
    cases hT : s.holds a
    · exact pbr_no h true v 0 imm a ha hpc hT
    · rcases (by omega : s.pc + 1 + imm < 0 ∨ (0 ≤ s.pc + 1 + imm ∧ 1048576 < s.pc + 1 + imm) ∨ (0 ≤ s.pc + 1 + imm ∧ s.pc + 1 + imm ≤ 1048576)) with ht | ⟨ht0, ht⟩ | ⟨ht0, ht⟩
      · exact pbr_rel_low h v imm a ha hpc hT hi0 hi1 ht
      · exact pbr_rel_high h v imm a ha hpc hT hi0 hi1 ht0 ht
      · cases v
        · exact pbr_rel_plain h imm a ha hpc hT hi0 hi1 ht0 ht
        · exact pbr_rel_link h imm a ha hpc hT hi0 hi1 ht0 ht
  · simp only at ha hb0 ho0 hu hc hi0 hi1
    subst hb0 ho0 hu
    cases hT : s.holds a
    · exact pbr_no h false v c imm a ha hpc hT
    · by_cases h12 : v = true ∧ c = 12
      · obtain ⟨rfl, rfl⟩ := h12
        by_cases hz : imm = 0
        · subst hz; exact pbr_halt h a ha hpc hT
        · exact pbr_trap h imm a ha hpc hT (by omega) hi1
      · have h0 := (h.fit.rg c hc).1
        rcases (by omega : (1048576 < s.rg c) ∨ s.rg c ≤ 1048576) with ht | ht
        · exact pbr_reg_high h v c imm a ha hpc hT hc (fun hv hc12 => h12 ⟨hv, hc12⟩) h0 ht
        · cases v
          · exact pbr_reg_plain h c imm a ha hpc hT hc h0 ht
          · exact pbr_reg_link h c imm a ha hpc hT hc (fun hc12 => h12 ⟨rfl, hc12⟩) h0 ht

theorem rbranch_any (h : Mach false w B q F cv mv iv ov s) (i : Ins) (hR : Right i) (h3 : i.f = 3) (hpc : s.pc ≤ 1048575) :
    Calls Try.prog 43 #[.pointer (some ⟨q, 0, none⟩), insV i] w (BrPost false w B q F cv mv iv ov s (s.branch i)) := by
  obtain ⟨f, u, v, a, bb, c, op, imm⟩ := i
  obtain rfl : f = 3 := h3
  obtain ⟨ha, hb, hc, ho, h5⟩ := hR
  rcases h5 with ⟨e, _⟩ | ⟨e, _⟩ | ⟨e, _⟩ | ⟨_, hb0, ho0, hu, hc0, hi0, hi1⟩ | ⟨_, hb0, ho0, hu, hi0, hi1⟩
  · simp at e
  · simp at e
  · simp at e
  · simp only at ha hb0 ho0 hu hc0 hi0 hi1
    subst hb0 ho0 hu hc0
    cases hT : s.holds a
    · exact rbr_no h true v 0 imm a ha hpc hT
    · rcases (by omega : s.pc + 1 + imm < 0 ∨ (0 ≤ s.pc + 1 + imm ∧ 1048576 < s.pc + 1 + imm) ∨ (0 ≤ s.pc + 1 + imm ∧ s.pc + 1 + imm ≤ 1048576)) with ht | ⟨ht0, ht⟩ | ⟨ht0, ht⟩
      · exact rbr_rel_low h v imm a ha hpc hT hi0 hi1 ht
      · exact rbr_rel_high h v imm a ha hpc hT hi0 hi1 ht0 ht
      · cases v
        · exact rbr_rel_plain h imm a ha hpc hT hi0 hi1 ht0 ht
        · exact rbr_rel_link h imm a ha hpc hT hi0 hi1 ht0 ht
  · simp only at ha hb0 ho0 hu hc hi0 hi1
    subst hb0 ho0 hu
    cases hT : s.holds a
    · exact rbr_no h false v c imm a ha hpc hT
    · by_cases h12 : v = true ∧ c = 12
      · obtain ⟨rfl, rfl⟩ := h12
        by_cases hz : imm = 0
        · subst hz; exact rbr_halt h a ha hpc hT
        · exact rbr_trap h imm a ha hpc hT (by omega) hi1
      · have h0 := (h.fit.rg c hc).1
        rcases (by omega : (1048576 < s.rg c) ∨ s.rg c ≤ 1048576) with ht | ht
        · exact rbr_reg_high h v c imm a ha hpc hT hc (fun hv hc12 => h12 ⟨hv, hc12⟩) h0 ht
        · cases v
          · exact rbr_reg_plain h c imm a ha hpc hT hc h0 ht
          · exact rbr_reg_link h c imm a ha hpc hT hc (fun hc12 => h12 ⟨rfl, hc12⟩) h0 ht
end
end Go.Proofs.Ytflinbfobadheaa
