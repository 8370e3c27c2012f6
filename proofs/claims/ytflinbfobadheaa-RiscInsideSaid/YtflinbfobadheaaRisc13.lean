/- The contract of both Steps. -/
import Derived.Test.YtflinbfobadheaaRisc12
import Derived.Test.YtflinbfobadheaaRisc10
import Derived.Test.YtflinbfobadheaaRisc13a
import Derived.Deep.RegionHeld3
import Derived.Deep.RegionWith
namespace Go.Proofs.Ytflinbfobadheaa
open Go.RowKit Go.Waf
set_option maxRecDepth 100000
set_option linter.unusedVariables false

def StPost (p : Bool) (w : World) (B q : Nat) (F : Nat → Prop) (cv mv iv : Value) (s : St) (e : Ending) (w' : World) : Prop :=
  e = .returned (.bool (decide (s.fin = 0))) ∧ (∃ F' iv' ov', Mach p w' B q F' cv mv iv' ov' s.step ∧ (∀ k, F' k → F k ∨ w.heap.size ≤ k) ∧ iv'.ownBlock = iv.ownBlock) ∧ Fr F w w'
section
variable {w : World} {B q : Nat} {F : Nat → Prop} {cv mv iv ov : Value} {s : St}
theorem zero_later {W w3 : World} {b : Nat} {T : TypeId} (hb : Below W.heap.size W w3) (h : W.heap[b]? = some (.cells #[.int .i64 0, .bool false, .bool false, .int .i64 0, .int .i64 0, .int .i64 0, .int .i64 0, .int .i32 0] T (0, 0))) : w3.cell? ⟨b, 0, none⟩ = some (.int .i64 0) ∧ w3.cell? ⟨b, 1, none⟩ = some (.bool false) ∧ w3.cell? ⟨b, 2, none⟩ = some (.bool false) ∧ w3.cell? ⟨b, 3, none⟩ = some (.int .i64 0) ∧ w3.cell? ⟨b, 4, none⟩ = some (.int .i64 0) ∧ w3.cell? ⟨b, 5, none⟩ = some (.int .i64 0) ∧ w3.cell? ⟨b, 6, none⟩ = some (.int .i64 0) ∧ w3.cell? ⟨b, 7, none⟩ = some (.int .i32 0) ∧ ∀ j, w3.frozen? ⟨b, j, none⟩ = false := by
  have h2 : w3.heap[b]? = some (.cells #[.int .i64 0, .bool false, .bool false, .int .i64 0, .int .i64 0, .int .i64 0, .int .i64 0, .int .i32 0] T (0, 0)) := by rw [hb.block b (Array.getElem?_eq_some_iff.1 h).1]; exact h
  refine ⟨?_, ?_, ?_, ?_, ?_, ?_, ?_, ?_, fun j => frozen_of_row w3 b j _ _ h2⟩
  all_goals (rw [cell_of_row w3 b _ _ _ _ h2]; rfl)
theorem St.step_run (h : s.fin = 0) : s.step = s.step1 := by unfold St.step; rw [if_pos h]
theorem St.step_stop (h : s.fin ≠ 0) : s.step = s := by unfold St.step; rw [if_neg h]
theorem told_fin (s : St) (a x : Int) : (s.told a x).fin = s.fin ∧ (s.told a x).pc = s.pc := ⟨rfl, rfl⟩
theorem opVal_fin {s s' : St} {i : Ins} {b n x : Int} (h : opVal s i b n = some (x, s')) : s'.fin = s.fin ∧ s'.pc = s.pc := by
  unfold opVal at h
  by_cases h0 : i.op = 0
  · rw [if_pos h0] at h
    simp only [Option.some.injEq, Prod.mk.injEq] at h
    obtain ⟨_, rfl⟩ := h
    exact ⟨rfl, rfl⟩
  rw [if_neg h0] at h
  by_cases h1 : i.op = 1
  · rw [if_pos h1] at h
    simp only [Option.some.injEq, Prod.mk.injEq] at h
    obtain ⟨_, rfl⟩ := h
    exact ⟨rfl, rfl⟩
  rw [if_neg h1] at h
  by_cases h2 : i.op = 2
  · rw [if_pos h2] at h
    simp only [Option.some.injEq, Prod.mk.injEq] at h
    obtain ⟨_, rfl⟩ := h
    exact ⟨rfl, rfl⟩
  rw [if_neg h2] at h
  by_cases h3 : i.op = 3
  · rw [if_pos h3] at h
    simp only [Option.some.injEq, Prod.mk.injEq] at h
    obtain ⟨_, rfl⟩ := h
    exact ⟨rfl, rfl⟩
  rw [if_neg h3] at h
  by_cases h4 : i.op = 4
  · rw [if_pos h4] at h
    simp only [Option.some.injEq, Prod.mk.injEq] at h
    obtain ⟨_, rfl⟩ := h
    exact ⟨rfl, rfl⟩
  rw [if_neg h4] at h
  by_cases h5 : i.op = 5
  · rw [if_pos h5] at h
    simp only [Option.some.injEq, Prod.mk.injEq] at h
    obtain ⟨_, rfl⟩ := h
    exact ⟨rfl, rfl⟩
  rw [if_neg h5] at h
  by_cases h6 : i.op = 6
  · rw [if_pos h6] at h
    simp only [Option.some.injEq, Prod.mk.injEq] at h
    obtain ⟨_, rfl⟩ := h
    exact ⟨rfl, rfl⟩
  rw [if_neg h6] at h
  by_cases h7 : i.op = 7
  · rw [if_pos h7] at h
    simp only [Option.some.injEq, Prod.mk.injEq] at h
    obtain ⟨_, rfl⟩ := h
    exact ⟨rfl, rfl⟩
  rw [if_neg h7] at h
  by_cases h8 : i.op = 8
  · rw [if_pos h8] at h
    simp only [Option.some.injEq, Prod.mk.injEq] at h
    obtain ⟨_, rfl⟩ := h
    exact ⟨rfl, rfl⟩
  rw [if_neg h8] at h
  by_cases h9 : i.op = 9
  · rw [if_pos h9] at h
    simp only [Option.some.injEq, Prod.mk.injEq] at h
    obtain ⟨_, rfl⟩ := h
    exact ⟨rfl, rfl⟩
  rw [if_neg h9] at h
  by_cases h10 : i.op = 10
  · rw [if_pos h10] at h
    simp only [Option.some.injEq, Prod.mk.injEq] at h
    obtain ⟨_, rfl⟩ := h
    exact ⟨rfl, rfl⟩
  rw [if_neg h10] at h
  by_cases h11 : i.op = 11
  · rw [if_pos h11] at h
    by_cases hd : 1 ≤ wrap32 n
    · rw [if_pos hd] at h
      simp only [Option.some.injEq, Prod.mk.injEq] at h
      obtain ⟨_, rfl⟩ := h
      exact ⟨rfl, rfl⟩
    · rw [if_neg hd] at h; cases h
  · rw [if_neg h11] at h; cases h
theorem operate_fin {s s' : St} {i : Ins} (h : s.operate i = some s') : s'.fin = s.fin ∧ s'.pc = s.pc := by
  unfold St.operate at h
  cases ho : opVal s i (s.rg i.b) (s.second i) with
  | none => rw [ho] at h; simp at h
  | some p =>
    rw [ho] at h
    simp only [Option.map_some, Option.some.injEq] at h
    subst h
    exact opVal_fin (x := p.1) (s' := p.2) (by rw [ho])
theorem move_fin {s s' : St} {i : Ins} (h : s.move i = some s') : s'.fin = s.fin ∧ s'.pc = s.pc := by
  unfold St.move at h
  by_cases h1 : i.v = true
  · rw [if_pos h1] at h; cases h
  rw [if_neg h1] at h
  by_cases h2 : s.place i = 4294967232
  · rw [if_pos h2] at h
    by_cases h3 : i.u = true
    · rw [if_pos h3] at h
      simp only [Option.some.injEq] at h
      subst h; exact ⟨rfl, rfl⟩
    · rw [if_neg h3] at h
      simp only [Option.some.injEq] at h
      subst h; exact ⟨rfl, rfl⟩
  rw [if_neg h2] at h
  by_cases h4 : s.place i = 4294967236 ∧ i.u = false
  · rw [if_pos h4] at h
    simp only [Option.some.injEq] at h
    subst h; exact ⟨rfl, rfl⟩
  rw [if_neg h4] at h
  by_cases h5 : s.place i % 4 ≠ 0 ∨ (s.mem.length : Int) ≤ s.place i / 4
  · rw [if_pos h5] at h; cases h
  rw [if_neg h5] at h
  by_cases h3 : i.u = true
  · rw [if_pos h3] at h
    simp only [Option.some.injEq] at h
    subst h; exact ⟨rfl, rfl⟩
  · rw [if_neg h3] at h
    simp only [Option.some.injEq] at h
    subst h; exact ⟨rfl, rfl⟩

theorem later_any {w X w3 : World} {p : Addr} {v : Value} (h : w.cell? p = some v) (hb : Below X.heap.size X w3) (hX : Below w.heap.size w X) : w3.cell? p = some v := by
  have h2 : X.cell? p = some v := (hX.cell (World.block_lt_of_cell? w p h)).trans h
  exact (hb.cell (World.block_lt_of_cell? _ p h2)).trans h2
theorem below_alloc_drew (w : World) (o : Obj) : Below w.heap.size w (w.alloc o).drew := ((Below.refl _ _).alloc (Nat.le_refl _) _).drew
theorem below_drewN_alloc (w : World) (n : Nat) (o : Obj) : Below w.heap.size w ((w.drewN n).alloc o) := (below_drewN w n).alloc (Nat.le_refl _) o
theorem far1 {W : World} {b o : Nat} {p : Addr} {u v : Value} (hne : p.block < b) (h : W.cell? p = some v) : (W.setCell ⟨b, o, none⟩ u).cell? p = some v := by
  rw [World.cell?_setCell_other _ _ _ _ (by intro h; rw [← h] at hne; exact Nat.lt_irrefl _ hne)]; exact h
theorem far8 {W : World} {b : Nat} {p : Addr} {v u0 u1 u2 u3 u4 u5 u6 u7 : Value} (hne : p.block < b) (h : W.cell? p = some v) : ((((((((W.setCell ⟨b, 0, none⟩ u0).setCell ⟨b, 1, none⟩ u1).setCell ⟨b, 2, none⟩ u2).setCell ⟨b, 3, none⟩ u3).setCell ⟨b, 4, none⟩ u4).setCell ⟨b, 5, none⟩ u5).setCell ⟨b, 6, none⟩ u6).setCell ⟨b, 7, none⟩ u7).cell? p = some v :=
  far1 hne (far1 hne (far1 hne (far1 hne (far1 hne (far1 hne (far1 hne (far1 hne h)))))))
theorem alloc_keep {W : World} {p : Addr} {v : Value} {o : Obj} (h : W.cell? p = some v) : (W.alloc o).cell? p = some v := (World.cell?_alloc_lt W o p (World.block_lt_of_cell? W p h)).trans h

/-! STEP -/
theorem box_new (W : World) (i : Ins) (T : TypeId) : ∀ j, j < 8 → (W.alloc (.cells (boxOf i) T)).cell? ⟨W.heap.size, j, none⟩ = (boxOf i)[j]? := fun j _ => by
  rw [World.cell?_alloc_new]
theorem box_cells {W : World} {g : Nat} {f : Int} {u v : Bool} {a b c op imm : Int} (h : ∀ j, j < 8 → W.cell? ⟨g, j, none⟩ = (boxOf ⟨f, u, v, a, b, c, op, imm⟩)[j]?) :
    W.cell? ⟨g, 0, none⟩ = some (.int .i64 f) ∧ W.cell? ⟨g, 1, none⟩ = some (.bool u) ∧ W.cell? ⟨g, 2, none⟩ = some (.bool v) ∧ W.cell? ⟨g, 3, none⟩ = some (.int .i64 a) ∧ W.cell? ⟨g, 4, none⟩ = some (.int .i64 b) ∧ W.cell? ⟨g, 5, none⟩ = some (.int .i64 c) ∧ W.cell? ⟨g, 6, none⟩ = some (.int .i64 op) ∧ W.cell? ⟨g, 7, none⟩ = some (.int .i32 imm) :=
  ⟨h 0 (by omega), h 1 (by omega), h 2 (by omega), h 3 (by omega), h 4 (by omega), h 5 (by omega), h 6 (by omega), h 7 (by omega)⟩
theorem old_of {F : Nat → Prop} {n m i : Nat} (hm : n ≤ m) (hi : i < n) (h : F i ∨ m ≤ i) : F i := by
  rcases h with h | h
  · exact h
  · omega
theorem new_of {F : Nat → Prop} {n m k : Nat} (hm : n ≤ m) (h : F k ∨ m ≤ k) : F k ∨ n ≤ k := by
  rcases h with h | h
  · exact .inl h
  · exact .inr (by omega)
theorem fin_fault {p : Bool} {w2 : World} {F' : Nat → Prop} {iv' ov' : Value} {s' : St} (hf : s.fin = 0) (hs : s.step = s') (hM : Mach p w2 B q F' cv mv iv' ov' s') (hF : Fr F w w2) (hF' : ∀ k, F' k → F k ∨ w.heap.size ≤ k) (hiv : iv'.ownBlock = iv.ownBlock) : StPost p w B q F cv mv iv s (.returned (.bool true)) w2 :=
  ⟨by simp [hf], ⟨F', iv', ov', by rw [hs]; exact hM, hF', hiv⟩, hF⟩
theorem fin_p {w2 : World} {F' : Nat → Prop} {iv' ov' : Value} {s' : St} {t : Int} (hf : s.fin = 0) (hq : F q) (hs : s.step = { s' with pc := t }) (h0 : 0 ≤ t) (h1 : t ≤ 1048576) (hM : Mach true w2 B q F' cv mv iv' ov' s') (hF : Fr F w w2) (hF' : ∀ k, F' k → F k ∨ w.heap.size ≤ k) (hiv : iv'.ownBlock = iv.ownBlock) : StPost true w B q F cv mv iv s (.returned (.bool true)) (w2.setCell ⟨q, 24, none⟩ (.int .i64 t)) :=
  ⟨by simp [hf], ⟨F', iv', ov', by rw [hs]; exact hM.pset_pc t h0 h1, hF', hiv⟩, hF.setCell (p := ⟨q, 24, none⟩) (.inr hq) _⟩
theorem fin_r {w2 : World} {F' : Nat → Prop} {iv' ov' : Value} {s' : St} {t : Int} (hf : s.fin = 0) (hq : F q) (hs : s.step = { s' with pc := t }) (h0 : 0 ≤ t) (h1 : t ≤ 1048576) (hM : Mach false w2 B q F' cv mv iv' ov' s') (hF : Fr F w w2) (hF' : ∀ k, F' k → F k ∨ w.heap.size ≤ k) (hiv : iv'.ownBlock = iv.ownBlock) : StPost false w B q F cv mv iv s (.returned (.bool true)) (w2.setCell ⟨q, 23, none⟩ (.int .i64 t)) :=
  ⟨by simp [hf], ⟨F', iv', ov', by rw [hs]; exact hM.rset_pc t h0 h1, hF', hiv⟩, hF.setCell (p := ⟨q, 23, none⟩) (.inr hq) _⟩
theorem branch_in {i : Ins} {t : Int} {s s' : St} (h0 : 0 ≤ s.pc) (h1 : s.pc ≤ 1048575) (h : s.branch i = some (t, s')) : 0 ≤ t ∧ t ≤ 1048576 := by
  unfold St.branch at h
  by_cases a : s.holds i.a = false
  · rw [if_pos a] at h
    simp only [Option.some.injEq, Prod.mk.injEq] at h
    omega
  rw [if_neg a] at h
  by_cases b : i.u = false ∧ i.v = true ∧ i.c = 12
  · rw [if_pos b] at h
    simp only [Option.some.injEq, Prod.mk.injEq] at h
    omega
  rw [if_neg b] at h
  obtain ⟨T, hT⟩ : ∃ T, T = (if i.u then s.pc + 1 + i.imm else s.rg i.c) := ⟨_, rfl⟩
  rw [← hT] at h
  by_cases c : T < 0 ∨ 1048576 < T
  · rw [if_pos c] at h; cases h
  · rw [if_neg c] at h
    simp only [Option.some.injEq, Prod.mk.injEq] at h
    omega

set_option maxHeartbeats 1600000 in
theorem pstep_stop (h : Mach true w B q F cv mv iv ov s) (hf : s.fin ≠ 0) :
    Calls Try.prog 20 #[.pointer (some ⟨q, 0, none⟩)] w (StPost true w B q F cv mv iv s) := by
  have H := Lib.hid h
  have cfin := h.p_fin
  obtain ⟨FN, hFN⟩ : ∃ FN, FN = s.fin := ⟨_, rfl⟩
  rw [← hFN] at cfin hf
  have HFN := Lib.hid hFN
  have hs1 := St.step_stop (s := s) (by rw [← hFN]; exact hf)
  have HS1 := Lib.hid hs1
  have q1 : (FN == 0) = false := by simp [hf]
  have q2 : (FN != 0) = true := by simp [hf]
  have hret : decide (s.fin = 0) = false := by rw [← hFN]; simp [hf]
  have HRT := Lib.hid hret
  clear hFN hs1 hret h hf
  go_enter Try.func20, Try.ntmps20
  go_wp2_with fail
  go_ret
  exact ⟨by rw [HRT.out]; rfl, ⟨F, iv, ov, by rw [HS1.out]; exact H.out, fun _ h => .inl h, rfl⟩, Fr.refl _ _⟩

set_option maxHeartbeats 1600000 in
theorem pstep_out (h : Mach true w B q F cv mv iv ov s) (hf : s.fin = 0) (hlt : (s.code.length : Int) ≤ s.pc) :
    Calls Try.prog 20 #[.pointer (some ⟨q, 0, none⟩)] w (StPost true w B q F cv mv iv s) := by
  obtain ⟨ca, cc, rfl, cl1, cl2, cl3⟩ := rd_shape h.code
  unfold maxLen at cl2
  have H := Lib.hid h
  have hql : q < w.heap.size := (h.fb q h.fq).2
  have cfin := h.p_fin
  have cpc := h.p_pc
  have ccv := h.p_cv
  have hp0 := h.fit.p0
  have hkl := h.fit.kl
  have hst : s.step = s.fault := by rw [St.step_run hf]; unfold St.step1; rw [if_pos (.inr hlt)]
  have HST := Lib.hid hst
  have hret : decide (s.fin = 0) = true := by simp [hf]
  have HRT := Lib.hid hret
  rw [hf] at cfin
  obtain ⟨PC, hPC⟩ : ∃ PC, PC = s.pc := ⟨_, rfl⟩
  obtain ⟨CL, hCL⟩ : ∃ CL, CL = s.code.length := ⟨_, rfl⟩
  rw [← hPC] at cpc hp0 hlt
  rw [← hCL] at ccv hkl cl1 hlt
  clear hPC hCL h hst hret hf
  have d0 : decide (PC < 0) = false := by simp; omega
  have d1 : decide ((CL : Int) ≤ PC) = true := by simp [hlt]
  have d0' : ¬ PC < 0 := by omega
  go_enter Try.func20, Try.ntmps20
  go_wp2_with fail
  go_quiet (fail)
  go_wp2_with fail
  refine (pfault_any (H.out.drewN _)).mono ?_; rintro e w2 ⟨rfl, hM2, hF2⟩
  have HR := Lib.hid (show StPost true w B q F _ mv iv s (.returned (.bool true)) w2 from ⟨by rw [HRT.out], ⟨F, iv, ov, by rw [HST.out]; exact hM2, fun _ h => .inl h, rfl⟩, ((Fr.refl F w).drewN _).trans hF2 (fun _ _ h => h)⟩)
  clear hM2 hF2
  go_wp2_with fail
  go_ret
  exact HR.out

set_option maxHeartbeats 6400000 in
theorem pstep_run (h : Mach true w B q F cv mv iv ov s) (hol : s.out.length ≤ 1000000) (hf : s.fin = 0) (hlt : s.pc < (s.code.length : Int)) :
    Calls Try.prog 20 #[.pointer (some ⟨q, 0, none⟩)] w (StPost true w B q F cv mv iv s) := by
  obtain ⟨ca, cc, rfl, cl1, cl2, cl3⟩ := rd_shape h.code
  unfold maxLen at cl2
  have H := Lib.hid h
  have hql : q < w.heap.size := (h.fb q h.fq).2
  have cpc := h.p_pc
  have cfin := h.p_fin
  have ccv := h.p_cv
  have hp0 := h.fit.p0
  have hkl := h.fit.kl
  have hs1 := St.step_run hf
  have HS1 := Lib.hid hs1
  have HFIN := Lib.hid hf
  rw [hf] at cfin
  obtain ⟨PC, hPC⟩ : ∃ PC, PC = s.pc := ⟨_, rfl⟩
  obtain ⟨CL, hCL⟩ : ∃ CL, CL = s.code.length := ⟨_, rfl⟩
  rw [← hPC] at cpc hp0 hlt
  rw [← hCL] at ccv hkl cl1 hlt
  have HPC := Lib.hid hPC
  have HCL := Lib.hid hCL
  clear hPC hCL hs1 h hf
  have d0 : decide (PC < 0) = false := by simp; omega
  have d0' : ¬ PC < 0 := by omega
  have d1 : decide ((CL : Int) ≤ PC) = false := by simp; omega
  obtain ⟨pn, rfl⟩ := Int.eq_ofNat_of_zero_le hp0
  have hpn : pn < CL := by omega
  obtain ⟨cb, co, rfl, hcc⟩ := Rd_at H.out.code (by rw [← HCL.out]; omega)
  have cx := hcc pn _ (u32s_get s.code pn (by rw [← HCL.out]; exact hpn))
  obtain ⟨x, hx⟩ : ∃ x, x = s.code.getD pn 0 := ⟨_, rfl⟩
  have hxw : W32 x := by rw [hx]; exact H.out.fit.k _ (getD_mem _ _ (by rw [← HCL.out]; exact hpn))
  rw [← hx] at cx
  have hcb : cb < w.heap.size := World.block_lt_of_cell? w ⟨cb, co + pn, none⟩ cx
  have cxa : ∀ (n : Nat) (o : Obj), ((w.drewN n).alloc o).cell? ⟨cb, co + pn, none⟩ = some (.int .u32 x) := fun n o => (World.cell?_alloc_lt (w.drewN n) o _ (by exact hcb)).trans cx
  have cpa : ∀ (n : Nat) (o : Obj), ((w.drewN n).alloc o).cell? ⟨q, 24, none⟩ = some (.int .i64 pn) := fun n o => (World.cell?_alloc_lt (w.drewN n) o _ (by exact hql)).trans cpc
  have cva : ∀ (n : Nat) (o : Obj), ((w.drewN n).alloc o).cell? ⟨q, 0, none⟩ = some (.slice (some ⟨cb, co, none⟩) CL cc) := fun n o => (World.cell?_alloc_lt (w.drewN n) o _ (by exact hql)).trans ccv
  obtain ⟨ok, hok⟩ : ∃ ok, ok = decOk x := ⟨_, rfl⟩
  obtain ⟨I, hI⟩ : ∃ I : Ins, I = (if decOk x then decI x else {}) := ⟨_, rfl⟩
  have hdv : decV x = .tuple #[insV I, .bool ok] := by rw [decV, ← hI, ← hok]
  have hstep : ok = true → s.step = s.exec I := fun h => by
    rw [HS1.out]; unfold St.step1
    rw [← HPC.out, ← HCL.out, if_neg (by omega), Int.toNat_natCast, ← hx, ← hok, h, if_neg (by simp), hI, ← hok, h]; rfl
  have hstep0 : ok = false → s.step = s.fault := fun h => by
    rw [HS1.out]; unfold St.step1
    rw [← HPC.out, ← HCL.out, if_neg (by omega), Int.toNat_natCast, ← hx, ← hok, h, if_pos rfl]
  have hright : ok = true → Right I := fun h => by rw [hI, ← hok, h]; exact dec_right x hxw.1 hxw.2
  have hD := fun W => decode_any x hxw.1 hxw.2 W
  rw [hdv] at hD
  obtain ⟨f, u, v, a, bb, c, op, imm⟩ := I
  simp only [insV] at hD
  have HD := Lib.hid hD
  have HSTEP := Lib.hid hstep
  have HSTEP0 := Lib.hid hstep0
  have HRI := Lib.hid hright
  have hpi : (pn : Int) < (CL : Int) := by omega
  clear hcc hx hok hI hdv hstep hstep0 hright hD hxw
  go_enter Try.func20, Try.ntmps20
  go_wp2_with fail
  go_quiet (fail)
  go_upto_region 6 with fail
  go_cut [3, 4] (fun c3 c4 wx => ∃ g, c3 = .pointer (some ⟨g, 0, none⟩) ∧ c4 = .bool ok ∧ (∀ j, j < 8 → wx.cell? ⟨g, j, none⟩ = (boxOf ⟨f, u, v, a, bb, c, op, imm⟩)[j]?) ∧ w.heap.size ≤ g ∧ Below w.heap.size w wx)
  case first =>
    go_region_held3 (fun W => W.cell? ⟨q, 0, none⟩ = some (.slice (some ⟨cb, co, none⟩) CL cc) ∧ W.cell? ⟨q, 24, none⟩ = some (.int .i64 pn) ∧ W.cell? ⟨cb, co + pn, none⟩ = some (.int .u32 x)) (first | (with_reducible exact ⟨d1, d2, d3⟩) | (with_reducible exact ⟨far8 hql d1, far8 hql d2, far8 hcb d3⟩) | (with_reducible exact ⟨alloc_keep d1, alloc_keep d2, alloc_keep d3⟩) | (with_reducible exact ⟨cva _ _, cpa _ _, cxa _ _⟩) | go_keep) ((go_at_call 32; refine (HD.out _).mono ?_; rintro e w3 ⟨rfl, hb3⟩; have hbx := Below.trans (by with_reducible first | exact below_drewN_alloc _ _ _ | exact below_alloc_drew _ _ | exact below_drewN _ _) (hb3.mono (by simp)); have d1 := later_any ccv hb3 (by with_reducible first | exact below_drewN_alloc _ _ _ | exact below_alloc_drew _ _ | exact below_drewN _ _); have d2 := later_any cpc hb3 (by with_reducible first | exact below_drewN_alloc _ _ _ | exact below_alloc_drew _ _ | exact below_drewN _ _);  have d3 := later_any cx hb3 (by with_reducible first | exact below_drewN_alloc _ _ _ | exact below_alloc_drew _ _ | exact below_drewN _ _); first | (obtain ⟨z0, z1, z2, z3, z4, z5, z6, z7, zf⟩ := zero_later (b := w.heap.size) (T := 27) hb3 (heap_alloc_new _ _)) | skip))
    all_goals (go_wp2_with fail)
    all_goals go_meet
    all_goals (clear cxa cpa cva)
    all_goals first
      | (have hz := z0; have hp := put8_cells w3 w.heap.size ⟨f, u, v, a, bb, c, op, imm⟩ (eight ⟨_, z0⟩ ⟨_, z1⟩ ⟨_, z2⟩ ⟨_, z3⟩ ⟨_, z4⟩ ⟨_, z5⟩ ⟨_, z6⟩ ⟨_, z7⟩); have hq := put8_below ⟨f, u, v, a, bb, c, op, imm⟩ hbx (Nat.le_refl _); unfold put8 at hp hq; exact ⟨_, rfl, rfl, hp, Nat.le_refl _, hq⟩)
      | exact ⟨_, rfl, rfl, box_new w3 ⟨f, u, v, a, bb, c, op, imm⟩ 27, hbx.size, hbx.alloc hbx.size _⟩
  case rest =>
    obtain ⟨g, rfl, rfl, hbox, hg, hbw⟩ := hcut
    obtain ⟨b0, b1, b2, b3, b4, b5, b6, b7⟩ := box_cells hbox
    have hMc := H.out.below hbw
    have cpc2 := hMc.p_pc
    have cfin2 := hMc.p_fin
    have hfq := H.out.fq
    have hF0 : Fr F w wc := Fr.of_new hbw
    rw [← HPC.out] at cpc2
    rw [HFIN.out] at cfin2
    have HM := Lib.hid hMc
    clear hbox hbw hMc ccv cpc cfin cx cxa cpa cva
    have hpcl : s.pc ≤ 1048575 := by rw [← HPC.out]; omega
    have HPL := Lib.hid hpcl
    clear hpcl
    cases ok with
    | false =>
      have hst0 := HSTEP0.out rfl
      have HST0 := Lib.hid hst0
      clear hst0 HSTEP HSTEP0 HRI HD
      as_aux_lemma =>
      go_wp2_with fail
      refine (pfault_any HM.out).mono ?_; rintro e w2 ⟨rfl, hM2, hF2⟩
      have HR := Lib.hid (fin_fault HFIN.out HST0.out hM2 (hF0.trans hF2 (fun _ _ h => h)) (fun _ h => .inl h) rfl)
      clear hM2 hF2
      go_wp2_with fail
      go_ret
      exact HR.out
    | true =>
      have hR := HRI.out rfl
      have hstep := HSTEP.out rfl
      have HSTP := Lib.hid hstep
      clear hstep HSTEP HSTEP0 HRI HD
      have HRT := Lib.hid hR
      obtain ⟨ha, hb, hc, ho, h5⟩ := hR
      simp only at ha hb hc ho h5
      have hfc : ((f = 0 ∨ (f = 1 ∧ 0 ≤ imm ∧ imm < 65536))) ∨ f = 2 ∨ f = 3 := by
        rcases h5 with ⟨e, _⟩ | ⟨e, _, h⟩ | ⟨e, _⟩ | ⟨e, _⟩ | ⟨e, _⟩
        · exact .inl (.inl e)
        · exact .inl (.inr ⟨e, by omega, by omega⟩)
        · exact .inr (.inl e)
        · exact .inr (.inr e)
        · exact .inr (.inr e)
      clear h5
      rcases hfc with hf01 | rfl | rfl
      · as_aux_lemma =>
        have hop := operate_any HM.out ⟨f, u, v, a, bb, c, op, imm⟩ ha hb hc hf01 ho
        have hex : s.exec ⟨f, u, v, a, bb, c, op, imm⟩ = (match s.operate ⟨f, u, v, a, bb, c, op, imm⟩ with | none => s.fault | some s' => { s' with pc := s.pc + 1 }) := by
          unfold St.exec; rw [if_pos (by show f < 2; rcases hf01 with h | h <;> omega)]; rfl
        simp only [insV] at hop
        have fl2 : f < 2 := by rcases hf01 with h | h <;> omega
        have fd2 : decide (f < 2) = true := by simp [fl2]
        have f0 : 0 ≤ f := by rcases hf01 with h | h <;> omega
        cases hO : s.operate ⟨f, u, v, a, bb, c, op, imm⟩ with
        | none =>
          rw [hO] at hop hex
          have HOP := Lib.hid hop
          have HEX := Lib.hid hex
          clear hop hex hO hf01 
          all_goals
            go_wp2_with fail
            refine HOP.out.mono ?_; rintro e w2 ⟨rfl, hM2, hF2⟩
            have HM2 := Lib.hid hM2
            have HF2 := Lib.hid hF2
            clear hM2 hF2
            go_wp2_with fail
            refine (pfault_any HM2.out).mono ?_; rintro e w4 ⟨rfl, hM4, hF4⟩
            have HR := Lib.hid (fin_fault HFIN.out (HSTP.out.trans HEX.out) hM4 ((hF0.trans HF2.out (fun _ _ h => h)).trans hF4 (fun _ _ h => h)) (fun _ h => .inl h) rfl)
            clear hM4 hF4
            go_wp2_with fail
            go_ret
            exact HR.out
        | some s' =>
          rw [hO] at hop hex
          obtain ⟨hfn, hpcs⟩ := operate_fin hO
          have HOP := Lib.hid hop
          have HEX := Lib.hid hex
          have HFN' := Lib.hid hfn
          clear hop hex hO hf01 hfn hpcs 
          all_goals
            go_wp2_with fail
            refine HOP.out.mono ?_; rintro e w2 ⟨rfl, hM2, hF2⟩
            simp only [Option.getD_some] at hM2
            have cf2 := hM2.p_fin
            rw [HFN'.out, HFIN.out] at cf2
            have cp2 := hM2.p_pc
            have ff2 := hM2.frozen 24
            have HM2 := Lib.hid hM2
            have HF2 := Lib.hid hF2
            clear hM2 hF2
            go_wp2_with fail
            go_ret
            exact fin_p HFIN.out hfq ((HSTP.out.trans HEX.out).trans (by rw [← HPC.out])) (by omega) (by omega) HM2.out (hF0.trans HF2.out (fun _ _ h => h)) (fun _ h => .inl h) rfl
      · as_aux_lemma =>
        have hop := pmove_any HM.out ⟨2, u, v, a, bb, c, op, imm⟩ HRT.out rfl hol
        have hex : s.exec ⟨2, u, v, a, bb, c, op, imm⟩ = (match s.move ⟨2, u, v, a, bb, c, op, imm⟩ with | none => s.fault | some s' => { s' with pc := s.pc + 1 }) := by
          unfold St.exec; rw [if_neg (by show ¬ (2 : Int) < 2; omega), if_pos (by show (2 : Int) = 2; rfl)]; rfl
        simp only [insV] at hop
        cases hO : s.move ⟨2, u, v, a, bb, c, op, imm⟩ with
        | none =>
          rw [hO] at hop hex
          have HOP := Lib.hid hop
          have HEX := Lib.hid hex
          clear hop hex hO
          go_wp2_with fail
          refine HOP.out.mono ?_; rintro e w2 ⟨rfl, ⟨F', iv', ov', hM2, hF', hiv'⟩, hF2⟩
          have HM2 := Lib.hid hM2
          have HF2 := Lib.hid hF2
          have HF' := Lib.hid hF'
          have HIV := Lib.hid hiv'
          clear hM2 hF2 hF' hiv'
          go_wp2_with fail
          refine (pfault_any HM2.out).mono ?_; rintro e w4 ⟨rfl, hM4, hF4⟩
          have HR := Lib.hid (fin_fault HFIN.out (HSTP.out.trans HEX.out) hM4 ((hF0.trans HF2.out (fun _ _ h => h)).trans hF4 (fun i hi h => old_of (hF0.size) hi (HF'.out i h))) (fun k h => new_of hF0.size (HF'.out k h)) HIV.out)
          clear hM4 hF4
          go_wp2_with fail
          go_ret
          exact HR.out
        | some s' =>
          rw [hO] at hop hex
          obtain ⟨hfn, hpcs⟩ := move_fin hO
          have HOP := Lib.hid hop
          have HEX := Lib.hid hex
          have HFN' := Lib.hid hfn
          clear hop hex hO hfn hpcs
          go_wp2_with fail
          refine HOP.out.mono ?_; rintro e w2 ⟨rfl, ⟨F', iv', ov', hM2, hF', hiv'⟩, hF2⟩
          simp only [Option.getD_some] at hM2
          have cf2 := hM2.p_fin
          rw [HFN'.out, HFIN.out] at cf2
          have cp2 := hM2.p_pc
          have ff2 := hM2.frozen 24
          have HM2 := Lib.hid hM2
          have HF2 := Lib.hid hF2
          have HF' := Lib.hid hF'
          have HIV := Lib.hid hiv'
          clear hM2 hF2 hF' hiv'
          go_wp2_with fail
          go_ret
          exact fin_p HFIN.out hfq ((HSTP.out.trans HEX.out).trans (by rw [← HPC.out])) (by omega) (by omega) HM2.out (hF0.trans HF2.out (fun _ _ h => h)) (fun k h => new_of hF0.size (HF'.out k h)) HIV.out
      · as_aux_lemma =>
        have hop := pbranch_any HM.out ⟨3, u, v, a, bb, c, op, imm⟩ HRT.out rfl HPL.out
        have hex : s.exec ⟨3, u, v, a, bb, c, op, imm⟩ = (match s.branch ⟨3, u, v, a, bb, c, op, imm⟩ with | none => s.fault | some (t, s') => if s'.fin = 0 then { s' with pc := t } else s') := by
          unfold St.exec; rw [if_neg (by show ¬ (3 : Int) < 2; omega), if_neg (by show ¬ (3 : Int) = 2; omega)]; rfl
        simp only [insV] at hop
        cases hO : s.branch ⟨3, u, v, a, bb, c, op, imm⟩ with
        | none =>
          rw [hO] at hop hex
          have HOP := Lib.hid hop
          have HEX := Lib.hid hex
          clear hop hex hO
          go_wp2_with fail
          refine HOP.out.mono ?_; rintro e w2 ⟨t, rfl, hM2, hF2, _⟩
          have HM2 := Lib.hid hM2
          have HF2 := Lib.hid hF2
          clear hM2 hF2
          go_wp2_with fail
          refine (pfault_any HM2.out).mono ?_; rintro e w4 ⟨rfl, hM4, hF4⟩
          have HR := Lib.hid (fin_fault HFIN.out (HSTP.out.trans HEX.out) hM4 ((hF0.trans HF2.out (fun _ _ h => h)).trans hF4 (fun _ _ h => h)) (fun _ h => .inl h) rfl)
          clear hM4 hF4
          go_wp2_with fail
          go_ret
          exact HR.out
        | some y =>
          obtain ⟨x2, s'⟩ := y
          rw [hO] at hop hex
          obtain ⟨x0, x1⟩ := branch_in HM.out.fit.p0 HPL.out hO
          have HOP := Lib.hid hop
          have HEX := Lib.hid hex
          clear hop hex hO
          obtain ⟨FN, hFN⟩ : ∃ FN, FN = s'.fin := ⟨_, rfl⟩
          by_cases hz : FN = 0
          · have hex2 : s.exec ⟨3, u, v, a, bb, c, op, imm⟩ = { s' with pc := x2 } := by rw [HEX.out]; simp only; rw [if_pos (by rw [← hFN]; exact hz)]
            have HEX2 := Lib.hid hex2
            subst hz
            have HFN' := Lib.hid hFN
            clear hex2 HEX hFN
            go_wp2_with fail
            refine HOP.out.mono ?_; rintro e w2 ⟨t, rfl, hM2, hF2, hto⟩
            simp only [Option.map_some, Option.getD_some] at hM2
            obtain rfl : t = x2 := hto _ _ rfl HFN'.out.symm
            clear hto
            have cf2 := hM2.p_fin
            rw [← HFN'.out] at cf2
            have cp2 := hM2.p_pc
            have ff2 := hM2.frozen 24
            have HM2 := Lib.hid hM2
            have HF2 := Lib.hid hF2
            clear hM2 hF2
            go_wp2_with fail
            go_ret
            exact fin_p HFIN.out hfq (HSTP.out.trans HEX2.out) x0 x1 HM2.out (hF0.trans HF2.out (fun _ _ h => h)) (fun _ h => .inl h) rfl
          · have hex2 : s.exec ⟨3, u, v, a, bb, c, op, imm⟩ = s' := by rw [HEX.out]; simp only; rw [if_neg (by rw [← hFN]; exact hz)]
            have HEX2 := Lib.hid hex2
            have q1 : (FN == 0) = false := by simp [hz]
            have HFN' := Lib.hid hFN
            clear hex2 HEX hFN hz
            go_wp2_with fail
            refine HOP.out.mono ?_; rintro e w2 ⟨t, rfl, hM2, hF2, hto⟩
            simp only [Option.map_some, Option.getD_some] at hM2
            clear hto
            have cf2 := hM2.p_fin
            rw [← HFN'.out] at cf2
            have HM2 := Lib.hid hM2
            have HF2 := Lib.hid hF2
            clear hM2 hF2
            go_wp2_with fail
            go_ret
            exact fin_fault HFIN.out (HSTP.out.trans HEX2.out) HM2.out (hF0.trans HF2.out (fun _ _ h => h)) (fun _ h => .inl h) rfl

theorem pstep_any (h : Mach true w B q F cv mv iv ov s) (hol : s.out.length ≤ 1000000) :
    Calls Try.prog 20 #[.pointer (some ⟨q, 0, none⟩)] w (StPost true w B q F cv mv iv s) := by
  by_cases hf : s.fin = 0
  · by_cases hlt : (s.code.length : Int) ≤ s.pc
    · exact pstep_out h hf hlt
    · exact pstep_run h hol hf (by omega)
  · exact pstep_stop h hf

set_option maxHeartbeats 1600000 in
theorem rstep_stop (h : Mach false w B q F cv mv iv ov s) (hf : s.fin ≠ 0) :
    Calls Try.prog 25 #[.pointer (some ⟨q, 0, none⟩)] w (StPost false w B q F cv mv iv s) := by
  have H := Lib.hid h
  have cfin := h.r_fin
  obtain ⟨FN, hFN⟩ : ∃ FN, FN = s.fin := ⟨_, rfl⟩
  rw [← hFN] at cfin hf
  have HFN := Lib.hid hFN
  have hs1 := St.step_stop (s := s) (by rw [← hFN]; exact hf)
  have HS1 := Lib.hid hs1
  have q1 : (FN == 0) = false := by simp [hf]
  have q2 : (FN != 0) = true := by simp [hf]
  have hret : decide (s.fin = 0) = false := by rw [← hFN]; simp [hf]
  have HRT := Lib.hid hret
  clear hFN hs1 hret h hf
  go_enter Try.func25, Try.ntmps25
  go_wp2_with fail
  go_ret
  exact ⟨by rw [HRT.out]; rfl, ⟨F, iv, ov, by rw [HS1.out]; exact H.out, fun _ h => .inl h, rfl⟩, Fr.refl _ _⟩

set_option maxHeartbeats 1600000 in
theorem rstep_out (h : Mach false w B q F cv mv iv ov s) (hf : s.fin = 0) (hlt : (s.code.length : Int) ≤ s.pc) :
    Calls Try.prog 25 #[.pointer (some ⟨q, 0, none⟩)] w (StPost false w B q F cv mv iv s) := by
  obtain ⟨ca, cc, rfl, cl1, cl2, cl3⟩ := rd_shape h.code
  unfold maxLen at cl2
  have H := Lib.hid h
  have hql : q < w.heap.size := (h.fb q h.fq).2
  have cfin := h.r_fin
  have cpc := h.r_pc
  have ccv := h.r_cv
  have hp0 := h.fit.p0
  have hkl := h.fit.kl
  have hst : s.step = s.fault := by rw [St.step_run hf]; unfold St.step1; rw [if_pos (.inr hlt)]
  have HST := Lib.hid hst
  have hret : decide (s.fin = 0) = true := by simp [hf]
  have HRT := Lib.hid hret
  rw [hf] at cfin
  obtain ⟨PC, hPC⟩ : ∃ PC, PC = s.pc := ⟨_, rfl⟩
  obtain ⟨CL, hCL⟩ : ∃ CL, CL = s.code.length := ⟨_, rfl⟩
  rw [← hPC] at cpc hp0 hlt
  rw [← hCL] at ccv hkl cl1 hlt
  clear hPC hCL h hst hret hf
  have d0 : decide (PC < 0) = false := by simp; omega
  have d1 : decide ((CL : Int) ≤ PC) = true := by simp [hlt]
  have d0' : ¬ PC < 0 := by omega
  go_enter Try.func25, Try.ntmps25
  go_wp2_with fail
  go_quiet (fail)
  go_wp2_with fail
  refine (rfault_any (H.out.drewN _)).mono ?_; rintro e w2 ⟨rfl, hM2, hF2⟩
  have HR := Lib.hid (show StPost false w B q F _ mv iv s (.returned (.bool true)) w2 from ⟨by rw [HRT.out], ⟨F, iv, ov, by rw [HST.out]; exact hM2, fun _ h => .inl h, rfl⟩, ((Fr.refl F w).drewN _).trans hF2 (fun _ _ h => h)⟩)
  clear hM2 hF2
  go_wp2_with fail
  go_ret
  exact HR.out

set_option maxHeartbeats 6400000 in
theorem rstep_run (h : Mach false w B q F cv mv iv ov s) (hol : s.out.length ≤ 1000000) (hf : s.fin = 0) (hlt : s.pc < (s.code.length : Int)) :
    Calls Try.prog 25 #[.pointer (some ⟨q, 0, none⟩)] w (StPost false w B q F cv mv iv s) := by
  obtain ⟨ca, cc, rfl, cl1, cl2, cl3⟩ := rd_shape h.code
  unfold maxLen at cl2
  have H := Lib.hid h
  have hql : q < w.heap.size := (h.fb q h.fq).2
  have cpc := h.r_pc
  have cfin := h.r_fin
  have ccv := h.r_cv
  have hp0 := h.fit.p0
  have hkl := h.fit.kl
  have hs1 := St.step_run hf
  have HS1 := Lib.hid hs1
  have HFIN := Lib.hid hf
  rw [hf] at cfin
  obtain ⟨PC, hPC⟩ : ∃ PC, PC = s.pc := ⟨_, rfl⟩
  obtain ⟨CL, hCL⟩ : ∃ CL, CL = s.code.length := ⟨_, rfl⟩
  rw [← hPC] at cpc hp0 hlt
  rw [← hCL] at ccv hkl cl1 hlt
  have HPC := Lib.hid hPC
  have HCL := Lib.hid hCL
  clear hPC hCL hs1 h hf
  have d0 : decide (PC < 0) = false := by simp; omega
  have d0' : ¬ PC < 0 := by omega
  have d1 : decide ((CL : Int) ≤ PC) = false := by simp; omega
  obtain ⟨pn, rfl⟩ := Int.eq_ofNat_of_zero_le hp0
  have hpn : pn < CL := by omega
  obtain ⟨cb, co, rfl, hcc⟩ := Rd_at H.out.code (by rw [← HCL.out]; omega)
  have cx := hcc pn _ (u32s_get s.code pn (by rw [← HCL.out]; exact hpn))
  obtain ⟨x, hx⟩ : ∃ x, x = s.code.getD pn 0 := ⟨_, rfl⟩
  have hxw : W32 x := by rw [hx]; exact H.out.fit.k _ (getD_mem _ _ (by rw [← HCL.out]; exact hpn))
  rw [← hx] at cx
  have hcb : cb < w.heap.size := World.block_lt_of_cell? w ⟨cb, co + pn, none⟩ cx
  have cxa : ∀ (n : Nat) (o : Obj), ((w.drewN n).alloc o).cell? ⟨cb, co + pn, none⟩ = some (.int .u32 x) := fun n o => (World.cell?_alloc_lt (w.drewN n) o _ (by exact hcb)).trans cx
  have cpa : ∀ (n : Nat) (o : Obj), ((w.drewN n).alloc o).cell? ⟨q, 23, none⟩ = some (.int .i64 pn) := fun n o => (World.cell?_alloc_lt (w.drewN n) o _ (by exact hql)).trans cpc
  have cva : ∀ (n : Nat) (o : Obj), ((w.drewN n).alloc o).cell? ⟨q, 0, none⟩ = some (.slice (some ⟨cb, co, none⟩) CL cc) := fun n o => (World.cell?_alloc_lt (w.drewN n) o _ (by exact hql)).trans ccv
  obtain ⟨ok, hok⟩ : ∃ ok, ok = decOk x := ⟨_, rfl⟩
  obtain ⟨I, hI⟩ : ∃ I : Ins, I = (if decOk x then decI x else {}) := ⟨_, rfl⟩
  have hdv : decV x = .tuple #[insV I, .bool ok] := by rw [decV, ← hI, ← hok]
  have hstep : ok = true → s.step = s.exec I := fun h => by
    rw [HS1.out]; unfold St.step1
    rw [← HPC.out, ← HCL.out, if_neg (by omega), Int.toNat_natCast, ← hx, ← hok, h, if_neg (by simp), hI, ← hok, h]; rfl
  have hstep0 : ok = false → s.step = s.fault := fun h => by
    rw [HS1.out]; unfold St.step1
    rw [← HPC.out, ← HCL.out, if_neg (by omega), Int.toNat_natCast, ← hx, ← hok, h, if_pos rfl]
  have hright : ok = true → Right I := fun h => by rw [hI, ← hok, h]; exact dec_right x hxw.1 hxw.2
  have hD := fun W => rdecode_any x hxw.1 hxw.2 W
  rw [hdv] at hD
  obtain ⟨f, u, v, a, bb, c, op, imm⟩ := I
  simp only [insV] at hD
  have HD := Lib.hid hD
  have HSTEP := Lib.hid hstep
  have HSTEP0 := Lib.hid hstep0
  have HRI := Lib.hid hright
  have hpi : (pn : Int) < (CL : Int) := by omega
  clear hcc hx hok hI hdv hstep hstep0 hright hD hxw
  go_enter Try.func25, Try.ntmps25
  go_wp2_with fail
  go_quiet (fail)
  go_upto_region 6 with fail
  go_cut [3, 4] (fun c3 c4 wx => ∃ g, c3 = .pointer (some ⟨g, 0, none⟩) ∧ c4 = .bool ok ∧ (∀ j, j < 8 → wx.cell? ⟨g, j, none⟩ = (boxOf ⟨f, u, v, a, bb, c, op, imm⟩)[j]?) ∧ w.heap.size ≤ g ∧ Below w.heap.size w wx)
  case first =>
    go_region_held3 (fun W => W.cell? ⟨q, 0, none⟩ = some (.slice (some ⟨cb, co, none⟩) CL cc) ∧ W.cell? ⟨q, 23, none⟩ = some (.int .i64 pn) ∧ W.cell? ⟨cb, co + pn, none⟩ = some (.int .u32 x)) (first | (with_reducible exact ⟨d1, d2, d3⟩) | (with_reducible exact ⟨far8 hql d1, far8 hql d2, far8 hcb d3⟩) | (with_reducible exact ⟨alloc_keep d1, alloc_keep d2, alloc_keep d3⟩) | (with_reducible exact ⟨cva _ _, cpa _ _, cxa _ _⟩) | go_keep) ((go_at_call 40; refine (HD.out _).mono ?_; rintro e w3 ⟨rfl, hb3⟩; have hbx := Below.trans (by with_reducible first | exact below_drewN_alloc _ _ _ | exact below_alloc_drew _ _ | exact below_drewN _ _) (hb3.mono (by simp)); have d1 := later_any ccv hb3 (by with_reducible first | exact below_drewN_alloc _ _ _ | exact below_alloc_drew _ _ | exact below_drewN _ _); have d2 := later_any cpc hb3 (by with_reducible first | exact below_drewN_alloc _ _ _ | exact below_alloc_drew _ _ | exact below_drewN _ _);  have d3 := later_any cx hb3 (by with_reducible first | exact below_drewN_alloc _ _ _ | exact below_alloc_drew _ _ | exact below_drewN _ _); first | (obtain ⟨z0, z1, z2, z3, z4, z5, z6, z7, zf⟩ := zero_later (b := w.heap.size) (T := 27) hb3 (heap_alloc_new _ _)) | skip))
    all_goals (go_wp2_with fail)
    all_goals go_meet
    all_goals (clear cxa cpa cva)
    all_goals first
      | (have hz := z0; have hp := put8_cells w3 w.heap.size ⟨f, u, v, a, bb, c, op, imm⟩ (eight ⟨_, z0⟩ ⟨_, z1⟩ ⟨_, z2⟩ ⟨_, z3⟩ ⟨_, z4⟩ ⟨_, z5⟩ ⟨_, z6⟩ ⟨_, z7⟩); have hq := put8_below ⟨f, u, v, a, bb, c, op, imm⟩ hbx (Nat.le_refl _); unfold put8 at hp hq; exact ⟨_, rfl, rfl, hp, Nat.le_refl _, hq⟩)
      | exact ⟨_, rfl, rfl, box_new w3 ⟨f, u, v, a, bb, c, op, imm⟩ 27, hbx.size, hbx.alloc hbx.size _⟩
  case rest =>
    obtain ⟨g, rfl, rfl, hbox, hg, hbw⟩ := hcut
    obtain ⟨b0, b1, b2, b3, b4, b5, b6, b7⟩ := box_cells hbox
    have hMc := H.out.below hbw
    have cpc2 := hMc.r_pc
    have cfin2 := hMc.r_fin
    have hfq := H.out.fq
    have hF0 : Fr F w wc := Fr.of_new hbw
    rw [← HPC.out] at cpc2
    rw [HFIN.out] at cfin2
    have HM := Lib.hid hMc
    clear hbox hbw hMc ccv cpc cfin cx cxa cpa cva
    have hpcl : s.pc ≤ 1048575 := by rw [← HPC.out]; omega
    have HPL := Lib.hid hpcl
    clear hpcl
    cases ok with
    | false =>
      have hst0 := HSTEP0.out rfl
      have HST0 := Lib.hid hst0
      clear hst0 HSTEP HSTEP0 HRI HD
      as_aux_lemma =>
      go_wp2_with fail
      refine (rfault_any HM.out).mono ?_; rintro e w2 ⟨rfl, hM2, hF2⟩
      have HR := Lib.hid (fin_fault HFIN.out HST0.out hM2 (hF0.trans hF2 (fun _ _ h => h)) (fun _ h => .inl h) rfl)
      clear hM2 hF2
      go_wp2_with fail
      go_ret
      exact HR.out
    | true =>
      have hR := HRI.out rfl
      have hstep := HSTEP.out rfl
      have HSTP := Lib.hid hstep
      clear hstep HSTEP HSTEP0 HRI HD
      have HRT := Lib.hid hR
      obtain ⟨ha, hb, hc, ho, h5⟩ := hR
      simp only at ha hb hc ho h5
      have hfc : ((f = 0 ∨ (f = 1 ∧ 0 ≤ imm ∧ imm < 65536))) ∨ f = 2 ∨ f = 3 := by
        rcases h5 with ⟨e, _⟩ | ⟨e, _, h⟩ | ⟨e, _⟩ | ⟨e, _⟩ | ⟨e, _⟩
        · exact .inl (.inl e)
        · exact .inl (.inr ⟨e, by omega, by omega⟩)
        · exact .inr (.inl e)
        · exact .inr (.inr e)
        · exact .inr (.inr e)
      clear h5
      rcases hfc with hf01 | rfl | rfl
      · as_aux_lemma =>
        have hop := register_any HM.out ⟨f, u, v, a, bb, c, op, imm⟩ ha hb hc hf01 ho
        have hex : s.exec ⟨f, u, v, a, bb, c, op, imm⟩ = (match s.operate ⟨f, u, v, a, bb, c, op, imm⟩ with | none => s.fault | some s' => { s' with pc := s.pc + 1 }) := by
          unfold St.exec; rw [if_pos (by show f < 2; rcases hf01 with h | h <;> omega)]; rfl
        simp only [insV] at hop
        have fl2 : f < 2 := by rcases hf01 with h | h <;> omega
        have fd2 : decide (f < 2) = true := by simp [fl2]
        have f0 : 0 ≤ f := by rcases hf01 with h | h <;> omega
        cases hO : s.operate ⟨f, u, v, a, bb, c, op, imm⟩ with
        | none =>
          rw [hO] at hop hex
          have HOP := Lib.hid hop
          have HEX := Lib.hid hex
          clear hop hex hO hf01 
          rcases (by omega : f = 0 ∨ f = 1) with rfl | rfl <;> first | skip
          all_goals
            go_wp2_with fail
            refine HOP.out.mono ?_; rintro e w2 ⟨rfl, hM2, hF2⟩
            have HM2 := Lib.hid hM2
            have HF2 := Lib.hid hF2
            clear hM2 hF2
            go_wp2_with fail
            refine (rfault_any HM2.out).mono ?_; rintro e w4 ⟨rfl, hM4, hF4⟩
            have HR := Lib.hid (fin_fault HFIN.out (HSTP.out.trans HEX.out) hM4 ((hF0.trans HF2.out (fun _ _ h => h)).trans hF4 (fun _ _ h => h)) (fun _ h => .inl h) rfl)
            clear hM4 hF4
            go_wp2_with fail
            go_ret
            exact HR.out
        | some s' =>
          rw [hO] at hop hex
          obtain ⟨hfn, hpcs⟩ := operate_fin hO
          have HOP := Lib.hid hop
          have HEX := Lib.hid hex
          have HFN' := Lib.hid hfn
          clear hop hex hO hf01 hfn hpcs 
          rcases (by omega : f = 0 ∨ f = 1) with rfl | rfl <;> first | skip
          all_goals
            go_wp2_with fail
            refine HOP.out.mono ?_; rintro e w2 ⟨rfl, hM2, hF2⟩
            simp only [Option.getD_some] at hM2
            have cf2 := hM2.r_fin
            rw [HFN'.out, HFIN.out] at cf2
            have cp2 := hM2.r_pc
            have ff2 := hM2.frozen 23
            have HM2 := Lib.hid hM2
            have HF2 := Lib.hid hF2
            clear hM2 hF2
            go_wp2_with fail
            go_ret
            exact fin_r HFIN.out hfq ((HSTP.out.trans HEX.out).trans (by rw [← HPC.out])) (by omega) (by omega) HM2.out (hF0.trans HF2.out (fun _ _ h => h)) (fun _ h => .inl h) rfl
      · as_aux_lemma =>
        have hop := rmove_any HM.out ⟨2, u, v, a, bb, c, op, imm⟩ HRT.out rfl hol
        have hex : s.exec ⟨2, u, v, a, bb, c, op, imm⟩ = (match s.move ⟨2, u, v, a, bb, c, op, imm⟩ with | none => s.fault | some s' => { s' with pc := s.pc + 1 }) := by
          unfold St.exec; rw [if_neg (by show ¬ (2 : Int) < 2; omega), if_pos (by show (2 : Int) = 2; rfl)]; rfl
        simp only [insV] at hop
        cases hO : s.move ⟨2, u, v, a, bb, c, op, imm⟩ with
        | none =>
          rw [hO] at hop hex
          have HOP := Lib.hid hop
          have HEX := Lib.hid hex
          clear hop hex hO
          go_wp2_with fail
          refine HOP.out.mono ?_; rintro e w2 ⟨rfl, ⟨F', iv', ov', hM2, hF', hiv'⟩, hF2⟩
          have HM2 := Lib.hid hM2
          have HF2 := Lib.hid hF2
          have HF' := Lib.hid hF'
          have HIV := Lib.hid hiv'
          clear hM2 hF2 hF' hiv'
          go_wp2_with fail
          refine (rfault_any HM2.out).mono ?_; rintro e w4 ⟨rfl, hM4, hF4⟩
          have HR := Lib.hid (fin_fault HFIN.out (HSTP.out.trans HEX.out) hM4 ((hF0.trans HF2.out (fun _ _ h => h)).trans hF4 (fun i hi h => old_of (hF0.size) hi (HF'.out i h))) (fun k h => new_of hF0.size (HF'.out k h)) HIV.out)
          clear hM4 hF4
          go_wp2_with fail
          go_ret
          exact HR.out
        | some s' =>
          rw [hO] at hop hex
          obtain ⟨hfn, hpcs⟩ := move_fin hO
          have HOP := Lib.hid hop
          have HEX := Lib.hid hex
          have HFN' := Lib.hid hfn
          clear hop hex hO hfn hpcs
          go_wp2_with fail
          refine HOP.out.mono ?_; rintro e w2 ⟨rfl, ⟨F', iv', ov', hM2, hF', hiv'⟩, hF2⟩
          simp only [Option.getD_some] at hM2
          have cf2 := hM2.r_fin
          rw [HFN'.out, HFIN.out] at cf2
          have cp2 := hM2.r_pc
          have ff2 := hM2.frozen 23
          have HM2 := Lib.hid hM2
          have HF2 := Lib.hid hF2
          have HF' := Lib.hid hF'
          have HIV := Lib.hid hiv'
          clear hM2 hF2 hF' hiv'
          go_wp2_with fail
          go_ret
          exact fin_r HFIN.out hfq ((HSTP.out.trans HEX.out).trans (by rw [← HPC.out])) (by omega) (by omega) HM2.out (hF0.trans HF2.out (fun _ _ h => h)) (fun k h => new_of hF0.size (HF'.out k h)) HIV.out
      · as_aux_lemma =>
        have hop := rbranch_any HM.out ⟨3, u, v, a, bb, c, op, imm⟩ HRT.out rfl HPL.out
        have hex : s.exec ⟨3, u, v, a, bb, c, op, imm⟩ = (match s.branch ⟨3, u, v, a, bb, c, op, imm⟩ with | none => s.fault | some (t, s') => if s'.fin = 0 then { s' with pc := t } else s') := by
          unfold St.exec; rw [if_neg (by show ¬ (3 : Int) < 2; omega), if_neg (by show ¬ (3 : Int) = 2; omega)]; rfl
        simp only [insV] at hop
        cases hO : s.branch ⟨3, u, v, a, bb, c, op, imm⟩ with
        | none =>
          rw [hO] at hop hex
          have HOP := Lib.hid hop
          have HEX := Lib.hid hex
          clear hop hex hO
          go_wp2_with fail
          refine HOP.out.mono ?_; rintro e w2 ⟨t, rfl, hM2, hF2, _⟩
          have HM2 := Lib.hid hM2
          have HF2 := Lib.hid hF2
          clear hM2 hF2
          go_wp2_with fail
          refine (rfault_any HM2.out).mono ?_; rintro e w4 ⟨rfl, hM4, hF4⟩
          have HR := Lib.hid (fin_fault HFIN.out (HSTP.out.trans HEX.out) hM4 ((hF0.trans HF2.out (fun _ _ h => h)).trans hF4 (fun _ _ h => h)) (fun _ h => .inl h) rfl)
          clear hM4 hF4
          go_wp2_with fail
          go_ret
          exact HR.out
        | some y =>
          obtain ⟨x2, s'⟩ := y
          rw [hO] at hop hex
          obtain ⟨x0, x1⟩ := branch_in HM.out.fit.p0 HPL.out hO
          have HOP := Lib.hid hop
          have HEX := Lib.hid hex
          clear hop hex hO
          obtain ⟨FN, hFN⟩ : ∃ FN, FN = s'.fin := ⟨_, rfl⟩
          by_cases hz : FN = 0
          · have hex2 : s.exec ⟨3, u, v, a, bb, c, op, imm⟩ = { s' with pc := x2 } := by rw [HEX.out]; simp only; rw [if_pos (by rw [← hFN]; exact hz)]
            have HEX2 := Lib.hid hex2
            subst hz
            have HFN' := Lib.hid hFN
            clear hex2 HEX hFN
            go_wp2_with fail
            refine HOP.out.mono ?_; rintro e w2 ⟨t, rfl, hM2, hF2, hto⟩
            simp only [Option.map_some, Option.getD_some] at hM2
            obtain rfl : t = x2 := hto _ _ rfl HFN'.out.symm
            clear hto
            have cf2 := hM2.r_fin
            rw [← HFN'.out] at cf2
            have cp2 := hM2.r_pc
            have ff2 := hM2.frozen 23
            have HM2 := Lib.hid hM2
            have HF2 := Lib.hid hF2
            clear hM2 hF2
            go_wp2_with fail
            go_ret
            exact fin_r HFIN.out hfq (HSTP.out.trans HEX2.out) x0 x1 HM2.out (hF0.trans HF2.out (fun _ _ h => h)) (fun _ h => .inl h) rfl
          · have hex2 : s.exec ⟨3, u, v, a, bb, c, op, imm⟩ = s' := by rw [HEX.out]; simp only; rw [if_neg (by rw [← hFN]; exact hz)]
            have HEX2 := Lib.hid hex2
            have q1 : (FN == 0) = false := by simp [hz]
            have HFN' := Lib.hid hFN
            clear hex2 HEX hFN hz
            go_wp2_with fail
            refine HOP.out.mono ?_; rintro e w2 ⟨t, rfl, hM2, hF2, hto⟩
            simp only [Option.map_some, Option.getD_some] at hM2
            clear hto
            have cf2 := hM2.r_fin
            rw [← HFN'.out] at cf2
            have HM2 := Lib.hid hM2
            have HF2 := Lib.hid hF2
            clear hM2 hF2
            go_wp2_with fail
            go_ret
            exact fin_fault HFIN.out (HSTP.out.trans HEX2.out) HM2.out (hF0.trans HF2.out (fun _ _ h => h)) (fun _ h => .inl h) rfl

theorem rstep_any (h : Mach false w B q F cv mv iv ov s) (hol : s.out.length ≤ 1000000) :
    Calls Try.prog 25 #[.pointer (some ⟨q, 0, none⟩)] w (StPost false w B q F cv mv iv s) := by
  by_cases hf : s.fin = 0
  · by_cases hlt : (s.code.length : Int) ≤ s.pc
    · exact rstep_out h hf hlt
    · exact rstep_run h hol hf (by omega)
  · exact rstep_stop h hf
end
end Go.Proofs.Ytflinbfobadheaa
