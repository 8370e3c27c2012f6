/- The contracts of both Runs, and of the comparing of results. -/
import Derived.Test.YtflinbfobadheaaRisc13
import Derived.Test.YtflinbfobadheaaRisc14
namespace Go.Proofs.Ytflinbfobadheaa
open Go.RowKit Go.Waf
set_option maxRecDepth 100000
set_option linter.unusedVariables false

def St.stepN (s : St) : Nat → St
  | 0 => s
  | n + 1 => (s.step).stepN n
theorem St.stepN_succ (s : St) (n : Nat) : s.stepN (n + 1) = (s.stepN n).step := by
  induction n generalizing s with
  | zero => rfl
  | succ n ih => rw [St.stepN, ih]; rfl
theorem St.stepN_stop (s : St) (h : s.fin ≠ 0) (n : Nat) : s.stepN n = s := by
  induction n with
  | zero => rfl
  | succ n ih => rw [St.stepN, St.step_stop h, ih]
theorem St.stepN_add (s : St) (m n : Nat) : s.stepN (m + n) = (s.stepN m).stepN n := by
  induction m generalizing s with
  | zero => simp [St.stepN]
  | succ m ih => rw [show m + 1 + n = (m + n) + 1 by omega, St.stepN, ih]; rfl
theorem opVal_out {s s' : St} {i : Ins} {b n x : Int} (h : opVal s i b n = some (x, s')) : s'.out = s.out ∧ s'.code = s.code := by
  unfold opVal at h
  by_cases h0 : i.op = 0
  · rw [if_pos h0] at h
    simp only [Option.some.injEq, Prod.mk.injEq] at h
    obtain ⟨_, rfl⟩ := h
    exact ⟨rfl, rfl⟩
  rw [if_neg h0] at h
  by_cases h1 : i.op = 1
  · rw [if_pos h1] at h
    simp only [Option.some.injEq, Prod.mk.injEq] at h
    obtain ⟨_, rfl⟩ := h
    exact ⟨rfl, rfl⟩
  rw [if_neg h1] at h
  by_cases h2 : i.op = 2
  · rw [if_pos h2] at h
    simp only [Option.some.injEq, Prod.mk.injEq] at h
    obtain ⟨_, rfl⟩ := h
    exact ⟨rfl, rfl⟩
  rw [if_neg h2] at h
  by_cases h3 : i.op = 3
  · rw [if_pos h3] at h
    simp only [Option.some.injEq, Prod.mk.injEq] at h
    obtain ⟨_, rfl⟩ := h
    exact ⟨rfl, rfl⟩
  rw [if_neg h3] at h
  by_cases h4 : i.op = 4
  · rw [if_pos h4] at h
    simp only [Option.some.injEq, Prod.mk.injEq] at h
    obtain ⟨_, rfl⟩ := h
    exact ⟨rfl, rfl⟩
  rw [if_neg h4] at h
  by_cases h5 : i.op = 5
  · rw [if_pos h5] at h
    simp only [Option.some.injEq, Prod.mk.injEq] at h
    obtain ⟨_, rfl⟩ := h
    exact ⟨rfl, rfl⟩
  rw [if_neg h5] at h
  by_cases h6 : i.op = 6
  · rw [if_pos h6] at h
    simp only [Option.some.injEq, Prod.mk.injEq] at h
    obtain ⟨_, rfl⟩ := h
    exact ⟨rfl, rfl⟩
  rw [if_neg h6] at h
  by_cases h7 : i.op = 7
  · rw [if_pos h7] at h
    simp only [Option.some.injEq, Prod.mk.injEq] at h
    obtain ⟨_, rfl⟩ := h
    exact ⟨rfl, rfl⟩
  rw [if_neg h7] at h
  by_cases h8 : i.op = 8
  · rw [if_pos h8] at h
    simp only [Option.some.injEq, Prod.mk.injEq] at h
    obtain ⟨_, rfl⟩ := h
    exact ⟨rfl, rfl⟩
  rw [if_neg h8] at h
  by_cases h9 : i.op = 9
  · rw [if_pos h9] at h
    simp only [Option.some.injEq, Prod.mk.injEq] at h
    obtain ⟨_, rfl⟩ := h
    exact ⟨rfl, rfl⟩
  rw [if_neg h9] at h
  by_cases h10 : i.op = 10
  · rw [if_pos h10] at h
    simp only [Option.some.injEq, Prod.mk.injEq] at h
    obtain ⟨_, rfl⟩ := h
    exact ⟨rfl, rfl⟩
  rw [if_neg h10] at h
  by_cases h11 : i.op = 11
  · rw [if_pos h11] at h
    by_cases hd : 1 ≤ wrap32 n
    · rw [if_pos hd] at h
      simp only [Option.some.injEq, Prod.mk.injEq] at h
      obtain ⟨_, rfl⟩ := h
      exact ⟨rfl, rfl⟩
    · rw [if_neg hd] at h; cases h
  · rw [if_neg h11] at h; cases h
theorem operate_out {s s' : St} {i : Ins} (h : s.operate i = some s') : s'.out = s.out ∧ s'.code = s.code := by
  unfold St.operate at h
  cases ho : opVal s i (s.rg i.b) (s.second i) with
  | none => rw [ho] at h; simp at h
  | some p =>
    rw [ho] at h
    simp only [Option.map_some, Option.some.injEq] at h
    subst h
    exact opVal_out (x := p.1) (s' := p.2) (by rw [ho])
theorem move_out {s s' : St} {i : Ins} (h : s.move i = some s') : s'.out.length ≤ s.out.length + 1 ∧ s'.code = s.code := by
  unfold St.move at h
  repeat' split at h
  all_goals first
    | (simp only [Option.some.injEq] at h; subst h; first | exact ⟨Nat.le_succ _, rfl⟩ | exact ⟨by simp, rfl⟩)
    | cases h
theorem branch_out {s s' : St} {i : Ins} {t : Int} (h : s.branch i = some (t, s')) : s'.out = s.out ∧ s'.code = s.code := by
  unfold St.branch at h
  split at h
  · simp only [Option.some.injEq, Prod.mk.injEq] at h; obtain ⟨_, rfl⟩ := h; exact ⟨rfl, rfl⟩
  · split at h
    · simp only [Option.some.injEq, Prod.mk.injEq] at h; obtain ⟨_, rfl⟩ := h; split <;> exact ⟨rfl, rfl⟩
    · obtain ⟨T, hT⟩ : ∃ T, T = (if i.u then s.pc + 1 + i.imm else s.rg i.c) := ⟨_, rfl⟩
      rw [← hT] at h
      split at h
      · cases h
      · simp only [Option.some.injEq, Prod.mk.injEq] at h; obtain ⟨_, rfl⟩ := h; split <;> exact ⟨rfl, rfl⟩
theorem step_out (s : St) : s.step.out.length ≤ s.out.length + 1 ∧ s.step.code = s.code := by
  unfold St.step
  split
  · unfold St.step1
    split
    · exact ⟨Nat.le_succ _, rfl⟩
    · split
      · exact ⟨Nat.le_succ _, rfl⟩
      · unfold St.exec
        split
        · cases ho : s.operate (decI (s.code.getD s.pc.toNat 0)) with
          | none => exact ⟨Nat.le_succ _, rfl⟩
          | some s' => have := operate_out ho; exact ⟨by show s'.out.length ≤ _; rw [this.1]; omega, this.2⟩
        · split
          · cases ho : s.move (decI (s.code.getD s.pc.toNat 0)) with
            | none => exact ⟨Nat.le_succ _, rfl⟩
            | some s' => have := move_out ho; exact ⟨this.1, this.2⟩
          · cases ho : s.branch (decI (s.code.getD s.pc.toNat 0)) with
            | none => exact ⟨Nat.le_succ _, rfl⟩
            | some y =>
              obtain ⟨t, s'⟩ := y
              have := branch_out ho
              simp only
              split
              · exact ⟨by show s'.out.length ≤ _; rw [this.1]; omega, this.2⟩
              · exact ⟨by rw [this.1]; omega, this.2⟩
  · exact ⟨Nat.le_succ _, rfl⟩
theorem opVal_inp {s s' : St} {i : Ins} {b n x : Int} (h : opVal s i b n = some (x, s')) : s'.inp = s.inp ∧ s'.mem.length = s.mem.length := by
  unfold opVal at h
  by_cases h0 : i.op = 0
  · rw [if_pos h0] at h
    simp only [Option.some.injEq, Prod.mk.injEq] at h
    obtain ⟨_, rfl⟩ := h
    exact ⟨rfl, rfl⟩
  rw [if_neg h0] at h
  by_cases h1 : i.op = 1
  · rw [if_pos h1] at h
    simp only [Option.some.injEq, Prod.mk.injEq] at h
    obtain ⟨_, rfl⟩ := h
    exact ⟨rfl, rfl⟩
  rw [if_neg h1] at h
  by_cases h2 : i.op = 2
  · rw [if_pos h2] at h
    simp only [Option.some.injEq, Prod.mk.injEq] at h
    obtain ⟨_, rfl⟩ := h
    exact ⟨rfl, rfl⟩
  rw [if_neg h2] at h
  by_cases h3 : i.op = 3
  · rw [if_pos h3] at h
    simp only [Option.some.injEq, Prod.mk.injEq] at h
    obtain ⟨_, rfl⟩ := h
    exact ⟨rfl, rfl⟩
  rw [if_neg h3] at h
  by_cases h4 : i.op = 4
  · rw [if_pos h4] at h
    simp only [Option.some.injEq, Prod.mk.injEq] at h
    obtain ⟨_, rfl⟩ := h
    exact ⟨rfl, rfl⟩
  rw [if_neg h4] at h
  by_cases h5 : i.op = 5
  · rw [if_pos h5] at h
    simp only [Option.some.injEq, Prod.mk.injEq] at h
    obtain ⟨_, rfl⟩ := h
    exact ⟨rfl, rfl⟩
  rw [if_neg h5] at h
  by_cases h6 : i.op = 6
  · rw [if_pos h6] at h
    simp only [Option.some.injEq, Prod.mk.injEq] at h
    obtain ⟨_, rfl⟩ := h
    exact ⟨rfl, rfl⟩
  rw [if_neg h6] at h
  by_cases h7 : i.op = 7
  · rw [if_pos h7] at h
    simp only [Option.some.injEq, Prod.mk.injEq] at h
    obtain ⟨_, rfl⟩ := h
    exact ⟨rfl, rfl⟩
  rw [if_neg h7] at h
  by_cases h8 : i.op = 8
  · rw [if_pos h8] at h
    simp only [Option.some.injEq, Prod.mk.injEq] at h
    obtain ⟨_, rfl⟩ := h
    exact ⟨rfl, rfl⟩
  rw [if_neg h8] at h
  by_cases h9 : i.op = 9
  · rw [if_pos h9] at h
    simp only [Option.some.injEq, Prod.mk.injEq] at h
    obtain ⟨_, rfl⟩ := h
    exact ⟨rfl, rfl⟩
  rw [if_neg h9] at h
  by_cases h10 : i.op = 10
  · rw [if_pos h10] at h
    simp only [Option.some.injEq, Prod.mk.injEq] at h
    obtain ⟨_, rfl⟩ := h
    exact ⟨rfl, rfl⟩
  rw [if_neg h10] at h
  by_cases h11 : i.op = 11
  · rw [if_pos h11] at h
    by_cases hd : 1 ≤ wrap32 n
    · rw [if_pos hd] at h
      simp only [Option.some.injEq, Prod.mk.injEq] at h
      obtain ⟨_, rfl⟩ := h
      exact ⟨rfl, rfl⟩
    · rw [if_neg hd] at h; cases h
  · rw [if_neg h11] at h; cases h
theorem operate_inp {s s' : St} {i : Ins} (h : s.operate i = some s') : s'.inp = s.inp ∧ s'.mem.length = s.mem.length := by
  unfold St.operate at h
  cases ho : opVal s i (s.rg i.b) (s.second i) with
  | none => rw [ho] at h; simp at h
  | some p =>
    rw [ho] at h
    simp only [Option.map_some, Option.some.injEq] at h
    subst h
    exact opVal_inp (x := p.1) (s' := p.2) (by rw [ho])
theorem move_inp {s s' : St} {i : Ins} (h : s.move i = some s') : s'.inp.length ≤ s.inp.length ∧ s'.mem.length = s.mem.length := by
  unfold St.move at h
  repeat' split at h
  all_goals first
    | (simp only [Option.some.injEq] at h; subst h; first | exact ⟨Nat.le_refl _, rfl⟩ | exact ⟨by simp [St.told], rfl⟩ | exact ⟨Nat.le_refl _, by simp⟩)
    | cases h
theorem branch_inp {s s' : St} {i : Ins} {t : Int} (h : s.branch i = some (t, s')) : s'.inp = s.inp ∧ s'.mem.length = s.mem.length := by
  unfold St.branch at h
  split at h
  · simp only [Option.some.injEq, Prod.mk.injEq] at h; obtain ⟨_, rfl⟩ := h; exact ⟨rfl, rfl⟩
  · split at h
    · simp only [Option.some.injEq, Prod.mk.injEq] at h; obtain ⟨_, rfl⟩ := h; split <;> exact ⟨rfl, rfl⟩
    · obtain ⟨T, hT⟩ : ∃ T, T = (if i.u then s.pc + 1 + i.imm else s.rg i.c) := ⟨_, rfl⟩
      rw [← hT] at h
      split at h
      · cases h
      · simp only [Option.some.injEq, Prod.mk.injEq] at h; obtain ⟨_, rfl⟩ := h; split <;> exact ⟨rfl, rfl⟩
theorem step_inp (s : St) : s.step.inp.length ≤ s.inp.length ∧ s.step.mem.length = s.mem.length := by
  unfold St.step
  split
  · unfold St.step1
    split
    · exact ⟨Nat.le_refl _, rfl⟩
    · split
      · exact ⟨Nat.le_refl _, rfl⟩
      · unfold St.exec
        split
        · cases ho : s.operate (decI (s.code.getD s.pc.toNat 0)) with
          | none => exact ⟨Nat.le_refl _, rfl⟩
          | some s' => have := operate_inp ho; exact ⟨by show s'.inp.length ≤ _; rw [this.1]; exact Nat.le_refl _, this.2⟩
        · split
          · cases ho : s.move (decI (s.code.getD s.pc.toNat 0)) with
            | none => exact ⟨Nat.le_refl _, rfl⟩
            | some s' => have := move_inp ho; exact ⟨this.1, this.2⟩
          · cases ho : s.branch (decI (s.code.getD s.pc.toNat 0)) with
            | none => exact ⟨Nat.le_refl _, rfl⟩
            | some y =>
              obtain ⟨t, s'⟩ := y
              have := branch_inp ho
              simp only
              split
              · exact ⟨by show s'.inp.length ≤ _; rw [this.1]; exact Nat.le_refl _, this.2⟩
              · exact ⟨by rw [this.1]; exact Nat.le_refl _, this.2⟩
  · exact ⟨Nat.le_refl _, rfl⟩
theorem stepN_inp (s : St) (n : Nat) : (s.stepN n).inp.length ≤ s.inp.length ∧ (s.stepN n).mem.length = s.mem.length := by
  induction n with
  | zero => exact ⟨Nat.le_refl _, rfl⟩
  | succ n ih => rw [St.stepN_succ]; have := step_inp (s.stepN n); exact ⟨by omega, this.2.trans ih.2⟩
theorem stepN_out (s : St) (n : Nat) : (s.stepN n).out.length ≤ s.out.length + n ∧ (s.stepN n).code = s.code := by
  induction n with
  | zero => exact ⟨Nat.le_refl _, rfl⟩
  | succ n ih => rw [St.stepN_succ]; have := step_out (s.stepN n); exact ⟨by omega, this.2.trans ih.2⟩
def resBox (x y z : Value) : Obj := .cells #[x, y, z] 30 (0, 0)
def RunPost (p : Bool) (w : World) (B q : Nat) (F : Nat → Prop) (cv mv iv : Value) (s : St) (e : Ending) (w' : World) : Prop :=
  ∃ v F' iv' ov', e = .returned (.agg #[v, .int .i64 s.fin, .int .i64 s.trap]) ∧ w'.ownsRow w.heap.size 5 1 v s.out.length (byt s.out) ∧ Mach p w' B q F' cv mv iv' ov' s ∧ (∀ k, F' k → F k ∨ w.heap.size ≤ k) ∧ iv'.ownBlock = iv.ownBlock ∧ Fr F w w'
section
variable {w : World} {B q : Nat} {F : Nat → Prop} {cv mv iv ov : Value} {s : St}
theorem res_not {w : World} {b : Nat} {v : Value} {n : Nat} {k : IntKind} {xs : List Int} (hk : k ≠ .i64) (hr : Rd w 1 v n (xs.map (Value.int k))) (hn : 0 < n) {x : Value} {y z : Int} (hx : ∀ j, x ≠ .int k j) (hb : w.heap[b]? = some (resBox x (.int .i64 y) (.int .i64 z))) : v.ownBlock ≠ some b := by
  obtain ⟨hl, a, cap, rfl, h1, h2, h3, h4⟩ := hr
  obtain ⟨g, off, rfl, hc⟩ := h4 hn
  intro e
  have e2 : g = b := by simpa [Value.ownBlock] using e
  subst e2
  have hxl : xs.length = n := by simpa using hl
  have h0 := hc 0 (.int k (xs.getD 0 0)) (by simp [show 0 < xs.length by omega])
  have hb' : w.heap[g]? = some (.cells #[x, .int .i64 y, .int .i64 z] 30 (0, 0)) := hb
  rw [cell_of_row w g _ _ _ _ hb'] at h0
  rcases (by omega : off + 0 = 0 ∨ off + 0 = 1 ∨ off + 0 = 2 ∨ 3 ≤ off + 0) with e | e | e | e
  · rw [e] at h0; simp at h0; exact hx _ h0
  · rw [e] at h0; simp at h0; exact hk h0.1.symm
  · rw [e] at h0; simp at h0; exact hk h0.1.symm
  · rw [Array.getElem?_eq_none (by simp; omega)] at h0; cases h0
theorem Mach.box3 {p : Bool} {b : Nat} {x : Value} {y z : Int} (h : Mach p w B q F cv mv iv ov s) (hF : ¬ F b) (hb : w.heap[b]? = some (resBox x (.int .i64 y) (.int .i64 z))) (hx : ∀ k j, x ≠ .int k j) (u0 u1 u2 : Value) :
    Mach p (((w.setCell ⟨b, 0, none⟩ u0).setCell ⟨b, 1, none⟩ u1).setCell ⟨b, 2, none⟩ u2) B q F cv mv iv ov s := by
  refine h.keep (G := fun k => k = b) ((((Fr.refl (fun k => k = b) w).setCell (p := ⟨b, 0, none⟩) (.inr rfl) _).setCell (p := ⟨b, 1, none⟩) (.inr rfl) _).setCell (p := ⟨b, 2, none⟩) (.inr rfl) _) (fun k hk e => hF (e ▸ hk)) (fun k hk hn e => ?_) (fun k hk hn e => ?_)
  · subst e; exact res_not (by decide) h.code hn (hx _) hb hk
  · subst e; exact res_not (by decide) h.inp hn (hx _) hb hk

theorem fin_pm {w2 : World} {b : Nat} {v : Value} {n : Nat} {cs : List Value} {B0 : Nat} (h : w2.ownsRow B0 5 1 v n cs) (hb : b < B0) (u0 u1 u2 : Value) :
    (((w2.setCell ⟨b, 0, none⟩ u0).setCell ⟨b, 1, none⟩ u1).setCell ⟨b, 2, none⟩ u2).ownsRow B0 5 1 v n cs := by
  have hne : ∀ k, v.ownBlock = some k → k ≠ b := fun k hk => by have := (h.lt k hk).1; omega
  exact owns_set_other (owns_set_other (owns_set_other h _ _ (fun e => hne _ e rfl)) _ _ (fun e => hne _ e rfl)) _ _ (fun e => hne _ e rfl)
theorem box_at {w2 w3 : World} {R : Obj} (hF : ∀ k, F k → k < w.heap.size) (h : Fr F (w.alloc R) w2) (hb : Below w2.heap.size w2 w3) : w3.heap[w.heap.size]? = some R := by
  have hs : w.heap.size < w2.heap.size := by have := h.size; simp at this; omega
  rw [hb.block _ hs, h.block _ (by simp) (fun h => by have := hF _ h; omega)]
  exact heap_alloc_new _ _
theorem run_post {p : Bool} {w2 w3 : World} {F2 : Nat → Prop} {iv2 ov2 : Value} {s0 s1 : St} {va : Option Addr} {n vc : Nat} (hs : s1 = s0) (hF : ∀ k, F k → k < w.heap.size) (hM : Mach p w2 B q F2 cv mv iv2 ov2 s0) (hF2 : ∀ j, F2 j → F j ∨ w.heap.size + 1 ≤ j)
    (hfr : Fr F (w.alloc (resBox (.slice none 0 0) (.int .i64 0) (.int .i64 0))) w2) (ho : w3.ownsRow w2.heap.size 5 1 (.slice va n vc) s0.out.length (byt s0.out)) (hb : Below w2.heap.size w2 w3) (hiv : iv2.ownBlock = iv.ownBlock) :
    RunPost p w B q F cv mv iv s1 (.returned (.agg #[.slice va n vc, .int .i64 s0.fin, .int .i64 s0.trap])) (((w3.setCell ⟨w.heap.size, 0, none⟩ (.slice va n vc)).setCell ⟨w.heap.size, 1, none⟩ (.int .i64 s0.fin)).setCell ⟨w.heap.size, 2, none⟩ (.int .i64 s0.trap)) := by
  subst hs
  have hs : w.heap.size < w2.heap.size := by have := hfr.size; simp at this; omega
  have hnb : ¬ F2 w.heap.size := fun h => by
    rcases hF2 _ h with h | h
    · have := hF _ h; omega
    · omega
  refine ⟨_, F2, iv2, ov2, rfl, owns_mono (fin_pm ho hs _ _ _) (by omega), (hM.below hb).box3 hnb (box_at hF hfr hb) (by simp) _ _ _, fun k hk => ?_, hiv, ?_⟩
  · rcases hF2 k hk with h | h
    · exact .inl h
    · exact .inr (by omega)
  · have h1 : Fr F w (w.alloc (resBox (.slice none 0 0) (.int .i64 0) (.int .i64 0))) := (Fr.refl F w).alloc _
    have h2 := (h1.trans hfr (fun _ _ h => h)).trans (Fr.of_below hb) (fun i hi h => by omega)
    exact ((h2.setCell (p := ⟨w.heap.size, 0, none⟩) (.inl (Nat.le_refl _)) _).setCell (p := ⟨w.heap.size, 1, none⟩) (.inl (Nat.le_refl _)) _).setCell (p := ⟨w.heap.size, 2, none⟩) (.inl (Nat.le_refl _)) _
theorem res_cells2 {w3 : World} {b : Nat} (h2 : w3.heap[b]? = some (resBox (.slice none 0 0) (.int .i64 0) (.int .i64 0))) : w3.cell? ⟨b, 0, none⟩ = some (.slice none 0 0) ∧ w3.cell? ⟨b, 1, none⟩ = some (.int .i64 0) ∧ w3.cell? ⟨b, 2, none⟩ = some (.int .i64 0) ∧ ∀ j, w3.frozen? ⟨b, j, none⟩ = false := by
  refine ⟨?_, ?_, ?_, fun j => frozen_of_row w3 b j _ _ h2⟩
  all_goals (rw [cell_of_row w3 b _ _ _ _ h2]; rfl)

set_option maxHeartbeats 3200000 in
theorem prun_any (h : Mach true w B q F cv mv iv ov s) (fuel : Int) (hf0 : -9223372036854775808 ≤ fuel) (hf1 : fuel ≤ 10000) (hol : s.out.length ≤ 900000) :
    Calls Try.prog 14 #[.pointer (some ⟨q, 0, none⟩), .int .i64 fuel] w (RunPost true w B q F cv mv iv (s.stepN fuel.toNat)) := by
  have hql : q < w.heap.size := (h.fb q h.fq).2
  have hFb : ∀ k, F k → k < w.heap.size := fun k hk => (h.fb k hk).2
  have HFB := Lib.hid hFb
  have H := Lib.hid h
  have hN : (fuel.toNat : Int) = fuel ∨ (fuel.toNat = 0 ∧ fuel ≤ 0) := by omega
  obtain ⟨N, hNe⟩ : ∃ N, N = fuel.toNat := ⟨_, rfl⟩
  rw [← hNe] at hN
  rw [← hNe]
  have HNE := Lib.hid hNe
  have hNu : N ≤ 10000 := by omega
  have HOL := Lib.hid hol
  clear hNe hFb h hol
  go_enter Try.func14, Try.ntmps14
  go_wp2_with fail
  go_loopw [1] (fun f wr => ∃ (k : Nat) (F' : Nat → Prop) (iv' ov' : Value), k ≤ N ∧ f = .int .i64 (fuel - k) ∧ Mach true wr B q F' cv mv iv' ov' (s.stepN k) ∧ (∀ j, F' j → F j ∨ w.heap.size + 1 ≤ j) ∧ Fr F (w.alloc (resBox (.slice none 0 0) (.int .i64 0) (.int .i64 0))) wr ∧ iv'.ownBlock = iv.ownBlock) (fun f _ => (intOf f).toNat)
  case atStart => exact ⟨0, F, iv, ov, by omega, by simp, H.out.alloc _, fun _ h => .inl h, Fr.refl _ _, rfl⟩
  case round =>
    obtain ⟨k, F', iv', ov', hk, rfl, hM, hF', hFr, hIv⟩ := hrel
    have hso := (stepN_out s k).1
    have hS := pstep_any hM (by have := HOL.out; omega)
    have hsz : w.heap.size + 1 ≤ wr.heap.size := by have := hFr.size; simpa using this
    have HM := Lib.hid hM
    have HF' := Lib.hid hF'
    have HFR := Lib.hid hFr
    have HS := Lib.hid hS
    have HIV := Lib.hid hIv
    clear hM hF' hFr hso hS hIv
    by_cases hpos : 0 < fuel - k
    · have hkN : k < N := by omega
      by_cases hz : (s.stepN k).fin = 0
      · have HZ := Lib.hid hz
        have hdz : decide ((s.stepN k).fin = 0) = true := by simp [hz]
        have HDZ := Lib.hid hdz
        clear hz hdz
        go_wp2_with fail
        refine HS.out.mono ?_; rintro e w2 ⟨he, ⟨F2, iv2, ov2, hM2, hF2, hiv2⟩, hFr2⟩
        rw [HDZ.out] at he
        subst he
        rw [← St.stepN_succ] at hM2
        have HM2 := Lib.hid hM2
        have HF2 := Lib.hid hF2
        have HFR2 := Lib.hid hFr2
        have HIV2 := Lib.hid (hiv2.trans HIV.out)
        clear hM2 hF2 hFr2 hiv2
        go_wp2_with fail
        go_roundw
        case rel => exact ⟨k + 1, F2, iv2, ov2, by omega, by go_num, HM2.out, fun j hj => by
            rcases HF2.out j hj with h | h
            · exact HF'.out j h
            · exact .inr (by omega), HFR.out.trans HFR2.out (fun i hi h => by
            rcases HF'.out i h with h | h
            · exact h
            · simp at hi; omega), HIV2.out⟩
        case measure => simp [intOf]; omega
      · have hst : s.stepN N = s.stepN k := by rw [show N = k + (N - k) by omega, St.stepN_add, St.stepN_stop _ hz]
        have hdz : decide ((s.stepN k).fin = 0) = false := by simp [hz]
        have hs1 := St.step_stop hz
        have HST := Lib.hid hst
        have HDZ := Lib.hid hdz
        have HS1 := Lib.hid hs1
        clear hz hdz hst hs1
        go_wp2_with fail
        refine HS.out.mono ?_; rintro e w2 ⟨he, ⟨F2, iv2, ov2, hM2, hF2, hiv2⟩, hFr2⟩
        rw [HDZ.out] at he
        subst he
        rw [HS1.out] at hM2
        have hF3 : ∀ j, F2 j → F j ∨ w.heap.size + 1 ≤ j := fun j hj => by
            rcases hF2 j hj with h | h
            · exact HF'.out j h
            · exact .inr (by omega)
        have hFr3 := HFR.out.trans hFr2 (fun i hi h => by
            rcases HF'.out i h with h | h
            · exact h
            · simp at hi; omega)
        have HM2 := Lib.hid hM2
        have HF3 := Lib.hid hF3
        have HFR3 := Lib.hid hFr3
        have HIV3 := Lib.hid (hiv2.trans HIV.out)
        clear hM2 hF2 hFr2 hF3 hFr3 hiv2
        go_wp2_with fail
        refine (presult_any HM2.out (by have := HOL.out; have := (stepN_out s k).1; omega)).mono ?_; rintro e w3 ⟨v, rfl, ho, hb⟩
        obtain ⟨va, vc, rfl, _, _, _⟩ := owns_shape ho
        obtain ⟨z0, z1, z2, zf⟩ := res_cells2 (box_at HFB.out HFR3.out hb)
        obtain ⟨g0, g1, g2⟩ := set3 z0 z1 z2 (.slice va (s.stepN k).out.length vc) (.int .i64 (s.stepN k).fin) (.int .i64 (s.stepN k).trap)
        have HR := Lib.hid (run_post HST.out HFB.out HM2.out HF3.out HFR3.out ho hb HIV3.out)
        have G0 := Lib.hid g0
        have G1 := Lib.hid g1
        have G2 := Lib.hid g2
        clear ho hb g0 g1 g2
        go_wp2_with fail
        exact bodyPost_ret (v := .agg #[.slice va (s.stepN k).out.length vc, .int .i64 (s.stepN k).fin, .int .i64 (s.stepN k).trap]) (by simp [results, Try.results14, go_sem, G0.out, G1.out, G2.out]) rfl HR.out
    · have hst : s.stepN N = s.stepN k := by rw [show N = k by omega]
      have HST := Lib.hid hst
      have HM2 := HM
      have HF3 := HF'
      have HFR3 := HFR
      have HIV3 := HIV
      clear hst HS
      go_wp2_with fail
      refine (presult_any HM2.out (by have := HOL.out; have := (stepN_out s k).1; omega)).mono ?_; rintro e w3 ⟨v, rfl, ho, hb⟩
      obtain ⟨va, vc, rfl, _, _, _⟩ := owns_shape ho
      obtain ⟨z0, z1, z2, zf⟩ := res_cells2 (box_at HFB.out HFR3.out hb)
      obtain ⟨g0, g1, g2⟩ := set3 z0 z1 z2 (.slice va (s.stepN k).out.length vc) (.int .i64 (s.stepN k).fin) (.int .i64 (s.stepN k).trap)
      have HR := Lib.hid (run_post HST.out HFB.out HM2.out HF3.out HFR3.out ho hb HIV3.out)
      have G0 := Lib.hid g0
      have G1 := Lib.hid g1
      have G2 := Lib.hid g2
      clear ho hb g0 g1 g2
      go_wp2_with fail
      exact bodyPost_ret (v := .agg #[.slice va (s.stepN k).out.length vc, .int .i64 (s.stepN k).fin, .int .i64 (s.stepN k).trap]) (by simp [results, Try.results14, go_sem, G0.out, G1.out, G2.out]) rfl HR.out

set_option maxHeartbeats 3200000 in
theorem rrun_any (h : Mach false w B q F cv mv iv ov s) (fuel : Int) (hf0 : -9223372036854775808 ≤ fuel) (hf1 : fuel ≤ 10000) (hol : s.out.length ≤ 900000) :
    Calls Try.prog 28 #[.pointer (some ⟨q, 0, none⟩), .int .i64 fuel] w (RunPost false w B q F cv mv iv (s.stepN fuel.toNat)) := by
  have hql : q < w.heap.size := (h.fb q h.fq).2
  have hFb : ∀ k, F k → k < w.heap.size := fun k hk => (h.fb k hk).2
  have HFB := Lib.hid hFb
  have H := Lib.hid h
  have hN : (fuel.toNat : Int) = fuel ∨ (fuel.toNat = 0 ∧ fuel ≤ 0) := by omega
  obtain ⟨N, hNe⟩ : ∃ N, N = fuel.toNat := ⟨_, rfl⟩
  rw [← hNe] at hN
  rw [← hNe]
  have HNE := Lib.hid hNe
  have hNu : N ≤ 10000 := by omega
  have HOL := Lib.hid hol
  clear hNe hFb h hol
  go_enter Try.func28, Try.ntmps28
  go_wp2_with fail
  go_loopw [1] (fun f wr => ∃ (k : Nat) (F' : Nat → Prop) (iv' ov' : Value), k ≤ N ∧ f = .int .i64 (fuel - k) ∧ Mach false wr B q F' cv mv iv' ov' (s.stepN k) ∧ (∀ j, F' j → F j ∨ w.heap.size + 1 ≤ j) ∧ Fr F (w.alloc (resBox (.slice none 0 0) (.int .i64 0) (.int .i64 0))) wr ∧ iv'.ownBlock = iv.ownBlock) (fun f _ => (intOf f).toNat)
  case atStart => exact ⟨0, F, iv, ov, by omega, by simp, H.out.alloc _, fun _ h => .inl h, Fr.refl _ _, rfl⟩
  case round =>
    obtain ⟨k, F', iv', ov', hk, rfl, hM, hF', hFr, hIv⟩ := hrel
    have hso := (stepN_out s k).1
    have hS := rstep_any hM (by have := HOL.out; omega)
    have hsz : w.heap.size + 1 ≤ wr.heap.size := by have := hFr.size; simpa using this
    have HM := Lib.hid hM
    have HF' := Lib.hid hF'
    have HFR := Lib.hid hFr
    have HS := Lib.hid hS
    have HIV := Lib.hid hIv
    clear hM hF' hFr hso hS hIv
    by_cases hpos : 0 < fuel - k
    · have hkN : k < N := by omega
      by_cases hz : (s.stepN k).fin = 0
      · have HZ := Lib.hid hz
        have hdz : decide ((s.stepN k).fin = 0) = true := by simp [hz]
        have HDZ := Lib.hid hdz
        clear hz hdz
        go_wp2_with fail
        refine HS.out.mono ?_; rintro e w2 ⟨he, ⟨F2, iv2, ov2, hM2, hF2, hiv2⟩, hFr2⟩
        rw [HDZ.out] at he
        subst he
        rw [← St.stepN_succ] at hM2
        have HM2 := Lib.hid hM2
        have HF2 := Lib.hid hF2
        have HFR2 := Lib.hid hFr2
        have HIV2 := Lib.hid (hiv2.trans HIV.out)
        clear hM2 hF2 hFr2 hiv2
        go_wp2_with fail
        go_roundw
        case rel => exact ⟨k + 1, F2, iv2, ov2, by omega, by go_num, HM2.out, fun j hj => by
            rcases HF2.out j hj with h | h
            · exact HF'.out j h
            · exact .inr (by omega), HFR.out.trans HFR2.out (fun i hi h => by
            rcases HF'.out i h with h | h
            · exact h
            · simp at hi; omega), HIV2.out⟩
        case measure => simp [intOf]; omega
      · have hst : s.stepN N = s.stepN k := by rw [show N = k + (N - k) by omega, St.stepN_add, St.stepN_stop _ hz]
        have hdz : decide ((s.stepN k).fin = 0) = false := by simp [hz]
        have hs1 := St.step_stop hz
        have HST := Lib.hid hst
        have HDZ := Lib.hid hdz
        have HS1 := Lib.hid hs1
        clear hz hdz hst hs1
        go_wp2_with fail
        refine HS.out.mono ?_; rintro e w2 ⟨he, ⟨F2, iv2, ov2, hM2, hF2, hiv2⟩, hFr2⟩
        rw [HDZ.out] at he
        subst he
        rw [HS1.out] at hM2
        have hF3 : ∀ j, F2 j → F j ∨ w.heap.size + 1 ≤ j := fun j hj => by
            rcases hF2 j hj with h | h
            · exact HF'.out j h
            · exact .inr (by omega)
        have hFr3 := HFR.out.trans hFr2 (fun i hi h => by
            rcases HF'.out i h with h | h
            · exact h
            · simp at hi; omega)
        have HM2 := Lib.hid hM2
        have HF3 := Lib.hid hF3
        have HFR3 := Lib.hid hFr3
        have HIV3 := Lib.hid (hiv2.trans HIV.out)
        clear hM2 hF2 hFr2 hF3 hFr3 hiv2
        go_wp2_with fail
        refine (rresult_any HM2.out (by have := HOL.out; have := (stepN_out s k).1; omega)).mono ?_; rintro e w3 ⟨v, rfl, ho, hb⟩
        obtain ⟨va, vc, rfl, _, _, _⟩ := owns_shape ho
        obtain ⟨z0, z1, z2, zf⟩ := res_cells2 (box_at HFB.out HFR3.out hb)
        obtain ⟨g0, g1, g2⟩ := set3 z0 z1 z2 (.slice va (s.stepN k).out.length vc) (.int .i64 (s.stepN k).fin) (.int .i64 (s.stepN k).trap)
        have HR := Lib.hid (run_post HST.out HFB.out HM2.out HF3.out HFR3.out ho hb HIV3.out)
        have G0 := Lib.hid g0
        have G1 := Lib.hid g1
        have G2 := Lib.hid g2
        clear ho hb g0 g1 g2
        go_wp2_with fail
        exact bodyPost_ret (v := .agg #[.slice va (s.stepN k).out.length vc, .int .i64 (s.stepN k).fin, .int .i64 (s.stepN k).trap]) (by simp [results, Try.results28, go_sem, G0.out, G1.out, G2.out]) rfl HR.out
    · have hst : s.stepN N = s.stepN k := by rw [show N = k by omega]
      have HST := Lib.hid hst
      have HM2 := HM
      have HF3 := HF'
      have HFR3 := HFR
      have HIV3 := HIV
      clear hst HS
      go_wp2_with fail
      refine (rresult_any HM2.out (by have := HOL.out; have := (stepN_out s k).1; omega)).mono ?_; rintro e w3 ⟨v, rfl, ho, hb⟩
      obtain ⟨va, vc, rfl, _, _, _⟩ := owns_shape ho
      obtain ⟨z0, z1, z2, zf⟩ := res_cells2 (box_at HFB.out HFR3.out hb)
      obtain ⟨g0, g1, g2⟩ := set3 z0 z1 z2 (.slice va (s.stepN k).out.length vc) (.int .i64 (s.stepN k).fin) (.int .i64 (s.stepN k).trap)
      have HR := Lib.hid (run_post HST.out HFB.out HM2.out HF3.out HFR3.out ho hb HIV3.out)
      have G0 := Lib.hid g0
      have G1 := Lib.hid g1
      have G2 := Lib.hid g2
      clear ho hb g0 g1 g2
      go_wp2_with fail
      exact bodyPost_ret (v := .agg #[.slice va (s.stepN k).out.length vc, .int .i64 (s.stepN k).fin, .int .i64 (s.stepN k).trap]) (by simp [results, Try.results28, go_sem, G0.out, G1.out, G2.out]) rfl HR.out
end
end Go.Proofs.Ytflinbfobadheaa
