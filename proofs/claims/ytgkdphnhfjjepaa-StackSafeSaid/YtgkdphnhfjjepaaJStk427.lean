/- The walks and the plain lemmas of the statement, joined: part 7. No condition. -/
import Derived.Deep.RegionWith
import Derived.WalkLawsBesides
import Derived.Deep.RegionHeld3
import Derived.Test.YtgkdphnhfjjepaaJStk426
import Derived.Test.YtgkdphnhfjjepaaJStk424
import Derived.Test.YtgkdphnhfjjepaaJStk422

/- Both Runs. -/
namespace Go.Proofs.Ytgkdphnhfjjepaa
open Go.RowKit Go.Waf
set_option maxRecDepth 100000
set_option linter.unusedVariables false
set_option linter.unusedSimpArgs false

theorem SSt.stepN_succ (s : SSt) (n : Nat) : s.stepN (n + 1) = (s.stepN n).step := by
  induction n generalizing s with
  | zero => rfl
  | succ n ih => rw [SSt.stepN, ih]; rfl
theorem SSt.stepN_stop (s : SSt) (h : s.fin ≠ 0) (n : Nat) : s.stepN n = s := by
  induction n with
  | zero => rfl
  | succ n ih => rw [SSt.stepN, step_stop h, ih]
theorem SSt.stepN_add (s : SSt) (m n : Nat) : s.stepN (m + n) = (s.stepN m).stepN n := by
  induction m generalizing s with
  | zero => simp [SSt.stepN]
  | succ m ih => rw [show m + 1 + n = (m + n) + 1 by omega, SSt.stepN, ih]; rfl
theorem step_keeps (s : SSt) (ht : 0 ≤ s.top) : Keeps s s.step := by
  unfold SSt.step
  split
  · unfold SSt.step1 SSt.try1
    split
    · split
      · cases he : s.next.exec s.at'.1 s.at'.2 with
        | none => exact keeps_refl s
        | some s' => exact keeps_next (exec_keeps (s := s.next) ht he)
      · exact keeps_refl s
    · exact keeps_refl s
  · exact keeps_refl s
/-- What so many steps keep. -/
def KeepsN (n : Nat) (s s' : SSt) : Prop := s'.code = s.code ∧ s'.inp.length ≤ s.inp.length ∧ s'.mem.length = s.mem.length ∧ s'.out.length ≤ s.out.length + n
def resBox (x y z : Value) : Obj := .cells #[x, y, z] 31 (0, 0)
def RunPost (p : Bool) (w : World) (B q : Nat) (F : Nat → Prop) (cv mv iv : Value) (s : SSt) (e : Ending) (w' : World) : Prop :=
  ∃ v, e = .returned (.agg #[v, .int .i64 s.fin, .int .i64 s.trap]) ∧ w'.ownsRow w.heap.size 5 1 v s.out.length (byt s.out) ∧ FuQ p w B q F cv mv iv s w'
section
variable {p : Bool} {w : World} {B q : Nat} {F : Nat → Prop} {cv mv iv sv kv ov : Value} {s : SSt}
theorem FuQ.fit {w' : World} (h : FuQ p w B q F cv mv iv s w') : SFit s := by
  obtain ⟨_, _, _, _, _, h1, _⟩ := h; exact h1.fit
theorem FuQ.trans {w1 w2 : World} {F1 : Nat → Prop} {iv1 : Value} {s1 : SSt} (hm : Mv w F F1 w1) (hi : iv1.ownBlock = iv.ownBlock) (h : FuQ p w1 B q F1 cv mv iv1 s1 w2) : FuQ p w B q F cv mv iv s1 w2 := by
  obtain ⟨F', iv', sv', kv', ov', h1, h2, h3⟩ := h
  exact ⟨F', iv', sv', kv', ov', h1, h2.trans hi, hm.trans h3⟩
theorem FuQ.below {w' w2 : World} (h : FuQ p w B q F cv mv iv s w') (hb : Below w'.heap.size w' w2) : FuQ p w B q F cv mv iv s w2 := by
  obtain ⟨F', iv', sv', kv', ov', h1, h2, h3⟩ := h
  exact ⟨F', iv', sv', kv', ov', h1.below hb, h2, h3.below hb⟩
theorem FuQ.alloc {w' : World} (h : FuQ p w B q F cv mv iv s w') (o : Obj) : FuQ p w B q F cv mv iv s (w'.alloc o) := h.below ((Below.refl _ _).alloc (Nat.le_refl _) _)
theorem SM.fuq' {p : Bool} (h : SM p w B q F cv mv iv sv kv ov s) : FuQ p w B q F cv mv iv s w := h.fuq (Mv.refl _ _)
theorem fin_pm {w2 : World} {b : Nat} {v : Value} {n : Nat} {cs : List Value} {B0 : Nat} (h : w2.ownsRow B0 5 1 v n cs) (hb : b < B0) (u0 u1 u2 : Value) :
    (((w2.setCell ⟨b, 0, none⟩ u0).setCell ⟨b, 1, none⟩ u1).setCell ⟨b, 2, none⟩ u2).ownsRow B0 5 1 v n cs := by
  have hne : ∀ k, v.ownBlock = some k → k ≠ b := fun k hk => by have := (h.lt k hk).1; omega
  exact owns_set_other (owns_set_other (owns_set_other h _ _ (fun e => hne _ e rfl)) _ _ (fun e => hne _ e rfl)) _ _ (fun e => hne _ e rfl)
theorem box_at {w2 w3 : World} {F2 : Nat → Prop} {R : Obj} (hF : ∀ k, F k → k < w.heap.size) (h : Mv (w.alloc R) F F2 w2) (hb : Below w2.heap.size w2 w3) : w3.heap[w.heap.size]? = some R := by
  have hs : w.heap.size < w2.heap.size := by have := h.fr.size; simp at this; omega
  rw [hb.block _ hs, h.fr.block _ (by simp) (fun h => by have := hF _ h; omega)]
  exact heap_alloc_new _ _
theorem res_cells2 {w3 : World} {b : Nat} (h2 : w3.heap[b]? = some (resBox (.slice none 0 0) (.int .i64 0) (.int .i64 0))) : w3.cell? ⟨b, 0, none⟩ = some (.slice none 0 0) ∧ w3.cell? ⟨b, 1, none⟩ = some (.int .i64 0) ∧ w3.cell? ⟨b, 2, none⟩ = some (.int .i64 0) ∧ ∀ j, w3.frozen? ⟨b, j, none⟩ = false := by
  refine ⟨?_, ?_, ?_, fun j => frozen_of_row w3 b j _ _ h2⟩
  all_goals (rw [cell_of_row w3 b _ _ _ _ h2]; rfl)
theorem run_post (h : SM p w B q F cv mv iv sv kv ov s) {w2 w3 : World} {s1 s2 : SSt} {va : Option Addr} {n vc : Nat} (hs : s2 = s1) (hc : s1.code = s.code) (hi : s1.inp.length ≤ s.inp.length)
    (hfu : FuQ p (w.alloc (resBox (.slice none 0 0) (.int .i64 0) (.int .i64 0))) B q F cv mv iv s1 w2) (ho : w3.ownsRow w2.heap.size 5 1 (.slice va n vc) s1.out.length (byt s1.out)) (hb : Below w2.heap.size w2 w3) :
    RunPost p w B q F cv mv iv s2 (.returned (.agg #[.slice va n vc, .int .i64 s1.fin, .int .i64 s1.trap])) (((w3.setCell ⟨w.heap.size, 0, none⟩ (.slice va n vc)).setCell ⟨w.heap.size, 1, none⟩ (.int .i64 s1.fin)).setCell ⟨w.heap.size, 2, none⟩ (.int .i64 s1.trap)) := by
  subst hs
  obtain ⟨F', iv', sv', kv', ov', h1, h2, h3⟩ := hfu.below hb
  have hs3 : w.heap.size + 1 ≤ w3.heap.size := by have := h3.fr.size; simpa using this
  have hs2 : w.heap.size + 1 ≤ w2.heap.size := by
    obtain ⟨_, _, _, _, _, _, _, h4⟩ := hfu
    have := h4.fr.size; simpa using this
  have hnb : ∀ k, F' k → ¬ k = w.heap.size := fun k hk e => by
    subst e
    rcases h3.new _ hk with h5 | h5
    · have := (h.fb _ h5).2; omega
    · simp at h5; omega
  have hG : Fr (fun k => k = w.heap.size) w3 (((w3.setCell ⟨w.heap.size, 0, none⟩ (.slice va n vc)).setCell ⟨w.heap.size, 1, none⟩ (.int .i64 s2.fin)).setCell ⟨w.heap.size, 2, none⟩ (.int .i64 s2.trap)) := (((Fr.refl (fun k => k = w.heap.size) w3).setCell (p := ⟨w.heap.size, 0, none⟩) (.inr rfl) _).setCell (p := ⟨w.heap.size, 1, none⟩) (.inr rfl) _).setCell (p := ⟨w.heap.size, 2, none⟩) (.inr rfl) _
  have hM := h1.keep hG hnb (fun k hk hn e => ?_) (fun k hk hn e => ?_)
  · refine ⟨_, rfl, owns_mono (fin_pm ho (by omega) _ _ _) (by omega), F', iv', sv', kv', ov', hM, h2, ?_⟩
    have hm0 : Mv w F F (w.alloc (resBox (.slice none 0 0) (.int .i64 0) (.int .i64 0))) := (Mv.refl w F).alloc _
    have hm1 := hm0.trans h3
    exact ⟨((hm1.fr.setCell (p := ⟨w.heap.size, 0, none⟩) (.inl (Nat.le_refl _)) _).setCell (p := ⟨w.heap.size, 1, none⟩) (.inl (Nat.le_refl _)) _).setCell (p := ⟨w.heap.size, 2, none⟩) (.inl (Nat.le_refl _)) _, hm1.new⟩
  · subst e
    have := rd_lt h.code (by decide) (by rw [← hc]; exact hn) hk; omega
  · subst e
    have := rd_lt h.inp (by decide) (by omega) (by rw [← h2]; exact hk); omega
set_option maxHeartbeats 3200000 in
theorem prun_any (h : SM true w B q F cv mv iv sv kv ov s) (fuel : Int) (hf0 : -9223372036854775808 ≤ fuel) (hf1 : fuel ≤ 10000) (hol : s.out.length ≤ 900000) :
    Calls Try.prog 13 #[.pointer (some ⟨q, 0, none⟩), .int .i64 fuel] w (RunPost true w B q F cv mv iv (s.stepN fuel.toNat)) := by
  have hql : q < w.heap.size := h.lt
  have hFb : ∀ k, F k → k < w.heap.size := fun k hk => (h.fb k hk).2
  have HFB := Lib.hid hFb
  have H := Lib.hid h
  have hN : (fuel.toNat : Int) = fuel ∨ (fuel.toNat = 0 ∧ fuel ≤ 0) := by omega
  obtain ⟨N, hNe⟩ : ∃ N, N = fuel.toNat := ⟨_, rfl⟩
  rw [← hNe] at hN
  rw [← hNe]
  have HNE := Lib.hid hNe
  have hNu : N ≤ 10000 := by omega
  have HOL := Lib.hid hol
  clear hNe hFb h hol
  go_enter Try.func13, Try.ntmps13
  go_wp2_with fail
  go_loopw [1] (fun f wr => ∃ k : Nat, k ≤ N ∧ f = .int .i64 (fuel - k) ∧ KeepsN k s (s.stepN k) ∧ FuQ true (w.alloc (resBox (.slice none 0 0) (.int .i64 0) (.int .i64 0))) B q F cv mv iv (s.stepN k) wr) (fun f _ => (intOf f).toNat)
  case atStart => exact ⟨0, by omega, by simp, ⟨rfl, Nat.le_refl _, rfl, by simp [SSt.stepN]⟩, (H.out.alloc _).fuq'⟩
  case round =>
    obtain ⟨k, hk, rfl, hkeep, hfu⟩ := hrel
    have HKP := Lib.hid hkeep
    have HFU := Lib.hid hfu
    obtain ⟨F1, iv1, sv1, kv1, ov1, hM, hI, hMv⟩ := hfu
    have hS := pstep_any hM (by have := hkeep.2.2.2; have := HOL.out; omega)
    have hsz : w.heap.size + 1 ≤ wr.heap.size := by have := hMv.fr.size; simpa using this
    have HM := Lib.hid hM
    have HI := Lib.hid hI
    have HMV := Lib.hid hMv
    have HS := Lib.hid hS
    clear hM hI hMv hS hkeep
    by_cases hpos : 0 < fuel - k
    · have hkN : k < N := by omega
      by_cases hz : (s.stepN k).fin = 0
      · have hdz : decide ((s.stepN k).fin = 0) = true := by simp [hz]
        have HDZ := Lib.hid hdz
        clear hz hdz
        go_wp2_with fail
        refine HS.out.mono ?_; rintro e w2 ⟨he, hfu2⟩
        rw [HDZ.out] at he
        subst he
        rw [← SSt.stepN_succ] at hfu2
        have HFU2 := Lib.hid (FuQ.trans HMV.out HI.out hfu2)
        clear hfu2
        go_wp2_with fail
        go_roundw
        case rel => exact ⟨k + 1, by omega, by go_num, by
            have h1 := HKP.out
            have h2 := step_keeps (s.stepN k) HM.out.fit.t0
            rw [← SSt.stepN_succ] at h2
            exact ⟨h2.1.trans h1.1, Nat.le_trans h2.2.1 h1.2.1, h2.2.2.1.trans h1.2.2.1, by have := h2.2.2.2; have := h1.2.2.2; omega⟩, HFU2.out⟩
        case measure => simp [intOf]; omega
      · have hst : s.stepN N = s.stepN k := by rw [show N = k + (N - k) by omega, SSt.stepN_add, SSt.stepN_stop _ hz]
        have hdz : decide ((s.stepN k).fin = 0) = false := by simp [hz]
        have hs1 := step_stop hz
        have HST := Lib.hid hst
        have HDZ := Lib.hid hdz
        have HS1 := Lib.hid hs1
        clear hz hst hdz hs1
        go_wp2_with fail
        refine HS.out.mono ?_; rintro e w2 ⟨he, hfu2⟩
        rw [HDZ.out] at he
        subst he
        rw [HS1.out] at hfu2
        have HFU2 := Lib.hid (FuQ.trans HMV.out HI.out hfu2)
        obtain ⟨F2, iv2, sv2, kv2, ov2, hM2, hI2, hMv2⟩ := hfu2
        have hR := presult_any hM2 (by have := HKP.out.2.2.2; have := HOL.out; omega)
        have HR := Lib.hid hR
        have HX := Lib.hid (fun w3 (hb : Below w2.heap.size w2 w3) => box_at HFB.out (HMV.out.trans hMv2) hb)
        clear hR hM2 hI2 hMv2
        go_wp2_with fail
        refine HR.out.mono ?_; rintro e w3 ⟨v, rfl, ho, hb⟩
        obtain ⟨va, vc, rfl, _⟩ := owns_shape ho
        obtain ⟨z0, z1, z2, zf⟩ := res_cells2 (HX.out w3 hb)
        have HE := Lib.hid (run_post H.out HST.out HKP.out.1 HKP.out.2.1 HFU2.out ho hb)
        obtain ⟨g0, g1, g2⟩ := set3 z0 z1 z2 (.slice va (s.stepN k).out.length vc) (.int .i64 (s.stepN k).fin) (.int .i64 (s.stepN k).trap)
        clear ho hb
        go_wp2_with fail
        exact bodyPost_ret (v := .agg #[.slice va (s.stepN k).out.length vc, .int .i64 (s.stepN k).fin, .int .i64 (s.stepN k).trap]) (by simp [results, Try.results13, go_sem, g0, g1, g2]) rfl HE.out
    · have hst : s.stepN N = s.stepN k := by rw [show N = k by omega]
      have HST := Lib.hid hst
      have hR := presult_any HM.out (by have := HKP.out.2.2.2; have := HOL.out; omega)
      have HR := Lib.hid hR
      have HX := Lib.hid (fun w3 (hb : Below wr.heap.size wr w3) => box_at HFB.out HMV.out hb)
      clear hst hR
      go_wp2_with fail
      refine HR.out.mono ?_; rintro e w3 ⟨v, rfl, ho, hb⟩
      obtain ⟨va, vc, rfl, _⟩ := owns_shape ho
      obtain ⟨z0, z1, z2, zf⟩ := res_cells2 (HX.out w3 hb)
      have HE := Lib.hid (run_post H.out HST.out HKP.out.1 HKP.out.2.1 HFU.out ho hb)
      obtain ⟨g0, g1, g2⟩ := set3 z0 z1 z2 (.slice va (s.stepN k).out.length vc) (.int .i64 (s.stepN k).fin) (.int .i64 (s.stepN k).trap)
      clear ho hb
      go_wp2_with fail
      exact bodyPost_ret (v := .agg #[.slice va (s.stepN k).out.length vc, .int .i64 (s.stepN k).fin, .int .i64 (s.stepN k).trap]) (by simp [results, Try.results13, go_sem, g0, g1, g2]) rfl HE.out
set_option maxHeartbeats 3200000 in
theorem rrun_any (h : SM false w B q F cv mv iv sv kv ov s) (fuel : Int) (hf0 : -9223372036854775808 ≤ fuel) (hf1 : fuel ≤ 10000) (hol : s.out.length ≤ 900000) :
    Calls Try.prog 31 #[.pointer (some ⟨q, 0, none⟩), .int .i64 fuel] w (RunPost false w B q F cv mv iv (s.stepN fuel.toNat)) := by
  have hql : q < w.heap.size := h.lt
  have hFb : ∀ k, F k → k < w.heap.size := fun k hk => (h.fb k hk).2
  have HFB := Lib.hid hFb
  have H := Lib.hid h
  have hN : (fuel.toNat : Int) = fuel ∨ (fuel.toNat = 0 ∧ fuel ≤ 0) := by omega
  obtain ⟨N, hNe⟩ : ∃ N, N = fuel.toNat := ⟨_, rfl⟩
  rw [← hNe] at hN
  rw [← hNe]
  have HNE := Lib.hid hNe
  have hNu : N ≤ 10000 := by omega
  have HOL := Lib.hid hol
  clear hNe hFb h hol
  go_enter Try.func31, Try.ntmps31
  go_wp2_with fail
  go_loopw [1] (fun f wr => ∃ k : Nat, k ≤ N ∧ f = .int .i64 (fuel - k) ∧ KeepsN k s (s.stepN k) ∧ FuQ false (w.alloc (resBox (.slice none 0 0) (.int .i64 0) (.int .i64 0))) B q F cv mv iv (s.stepN k) wr) (fun f _ => (intOf f).toNat)
  case atStart => exact ⟨0, by omega, by simp, ⟨rfl, Nat.le_refl _, rfl, by simp [SSt.stepN]⟩, (H.out.alloc _).fuq'⟩
  case round =>
    obtain ⟨k, hk, rfl, hkeep, hfu⟩ := hrel
    have HKP := Lib.hid hkeep
    have HFU := Lib.hid hfu
    obtain ⟨F1, iv1, sv1, kv1, ov1, hM, hI, hMv⟩ := hfu
    have hS := rstep_any hM (by have := hkeep.2.2.2; have := HOL.out; omega)
    have hsz : w.heap.size + 1 ≤ wr.heap.size := by have := hMv.fr.size; simpa using this
    have HM := Lib.hid hM
    have HI := Lib.hid hI
    have HMV := Lib.hid hMv
    have HS := Lib.hid hS
    clear hM hI hMv hS hkeep
    by_cases hpos : 0 < fuel - k
    · have hkN : k < N := by omega
      by_cases hz : (s.stepN k).fin = 0
      · have hdz : decide ((s.stepN k).fin = 0) = true := by simp [hz]
        have HDZ := Lib.hid hdz
        clear hz hdz
        go_wp2_with fail
        refine HS.out.mono ?_; rintro e w2 ⟨he, hfu2⟩
        rw [HDZ.out] at he
        subst he
        rw [← SSt.stepN_succ] at hfu2
        have HFU2 := Lib.hid (FuQ.trans HMV.out HI.out hfu2)
        clear hfu2
        go_wp2_with fail
        go_roundw
        case rel => exact ⟨k + 1, by omega, by go_num, by
            have h1 := HKP.out
            have h2 := step_keeps (s.stepN k) HM.out.fit.t0
            rw [← SSt.stepN_succ] at h2
            exact ⟨h2.1.trans h1.1, Nat.le_trans h2.2.1 h1.2.1, h2.2.2.1.trans h1.2.2.1, by have := h2.2.2.2; have := h1.2.2.2; omega⟩, HFU2.out⟩
        case measure => simp [intOf]; omega
      · have hst : s.stepN N = s.stepN k := by rw [show N = k + (N - k) by omega, SSt.stepN_add, SSt.stepN_stop _ hz]
        have hdz : decide ((s.stepN k).fin = 0) = false := by simp [hz]
        have hs1 := step_stop hz
        have HST := Lib.hid hst
        have HDZ := Lib.hid hdz
        have HS1 := Lib.hid hs1
        clear hz hst hdz hs1
        go_wp2_with fail
        refine HS.out.mono ?_; rintro e w2 ⟨he, hfu2⟩
        rw [HDZ.out] at he
        subst he
        rw [HS1.out] at hfu2
        have HFU2 := Lib.hid (FuQ.trans HMV.out HI.out hfu2)
        obtain ⟨F2, iv2, sv2, kv2, ov2, hM2, hI2, hMv2⟩ := hfu2
        have hR := rresult_any hM2 (by have := HKP.out.2.2.2; have := HOL.out; omega)
        have HR := Lib.hid hR
        have HX := Lib.hid (fun w3 (hb : Below w2.heap.size w2 w3) => box_at HFB.out (HMV.out.trans hMv2) hb)
        clear hR hM2 hI2 hMv2
        go_wp2_with fail
        refine HR.out.mono ?_; rintro e w3 ⟨v, rfl, ho, hb⟩
        obtain ⟨va, vc, rfl, _⟩ := owns_shape ho
        obtain ⟨z0, z1, z2, zf⟩ := res_cells2 (HX.out w3 hb)
        have HE := Lib.hid (run_post H.out HST.out HKP.out.1 HKP.out.2.1 HFU2.out ho hb)
        obtain ⟨g0, g1, g2⟩ := set3 z0 z1 z2 (.slice va (s.stepN k).out.length vc) (.int .i64 (s.stepN k).fin) (.int .i64 (s.stepN k).trap)
        clear ho hb
        go_wp2_with fail
        exact bodyPost_ret (v := .agg #[.slice va (s.stepN k).out.length vc, .int .i64 (s.stepN k).fin, .int .i64 (s.stepN k).trap]) (by simp [results, Try.results31, go_sem, g0, g1, g2]) rfl HE.out
    · have hst : s.stepN N = s.stepN k := by rw [show N = k by omega]
      have HST := Lib.hid hst
      have hR := rresult_any HM.out (by have := HKP.out.2.2.2; have := HOL.out; omega)
      have HR := Lib.hid hR
      have HX := Lib.hid (fun w3 (hb : Below wr.heap.size wr w3) => box_at HFB.out HMV.out hb)
      clear hst hR
      go_wp2_with fail
      refine HR.out.mono ?_; rintro e w3 ⟨v, rfl, ho, hb⟩
      obtain ⟨va, vc, rfl, _⟩ := owns_shape ho
      obtain ⟨z0, z1, z2, zf⟩ := res_cells2 (HX.out w3 hb)
      have HE := Lib.hid (run_post H.out HST.out HKP.out.1 HKP.out.2.1 HFU.out ho hb)
      obtain ⟨g0, g1, g2⟩ := set3 z0 z1 z2 (.slice va (s.stepN k).out.length vc) (.int .i64 (s.stepN k).fin) (.int .i64 (s.stepN k).trap)
      clear ho hb
      go_wp2_with fail
      exact bodyPost_ret (v := .agg #[.slice va (s.stepN k).out.length vc, .int .i64 (s.stepN k).fin, .int .i64 (s.stepN k).trap]) (by simp [results, Try.results31, go_sem, g0, g1, g2]) rfl HE.out
end
end Go.Proofs.Ytgkdphnhfjjepaa

/- Both News. -/
namespace Go.Proofs.Ytgkdphnhfjjepaa
open Go.RowKit Go.Waf
set_option maxRecDepth 100000
set_option linter.unusedVariables false
set_option linter.unusedSimpArgs false

def zeros (n : Nat) : List Int := List.replicate n 0
def zeroCells (n : Nat) : Array Value := madeCells (Value.int .i32 0).cells (n * 1)
theorem zeroCells_list (n : Nat) : (zeroCells n).toList = i32s (zeros n) := by
  apply List.ext_getElem?
  intro i
  simp [zeroCells, madeCells, Value.cells, i32s, zeros]
  by_cases h : i < n
  · simp [h, Nat.mod_one]
  · simp [h]
theorem infoI : ∃ i : TypeInfo, Try.prog.info? 21 = some i ∧ i.zero = some (.int .i32 0) ∧ i.size = 1 ∧ i.bytes = 4 := by
  have h : (Try.prog.info? 21).map (fun i => (i.zero, i.size, i.bytes)) = some (some (.int .i32 0), 1, 4) := by kernel_rfl
  cases hi : Try.prog.info? 21 with
  | none => rw [hi] at h; simp at h
  | some i =>
    rw [hi] at h
    simp only [Option.map_some, Option.some.injEq, Prod.mk.injEq] at h
    exact ⟨i, rfl, h.1, h.2.1, h.2.2⟩
theorem make_eq (N : Nat) (hN : N ≤ 1048576) (w : World) : (Instr.makeSlice 33 (.int .i64 (N : Int)) (.int .i64 (N : Int))).run Try.prog w = .ok (.slice (some ⟨w.heap.size, 0, none⟩) N N) (w.alloc (.cells (zeroCells N) 21)) := by
  obtain ⟨i, hi, hz, hsi, hby⟩ := infoI
  have hr := run_make (P := Try.prog) w 33 21 i (.int .i32 0) Try.underlying33 hi hz .i64 .i64 N N (by omega) (Int.le_refl _) (by rw [hby]; omega) (by omega)
  simp only [Int.toNat_natCast] at hr
  rw [hr, hsi]; rfl
/-- n words, of them base ahead of the frame: as they are taken. -/
def words0 (n : Int) : Nat := (min (max n 0) 1048576).toNat
def base0 (n base : Int) : Nat := (min (max base 0) (words0 n)).toNat
theorem words0_le (n : Int) : words0 n ≤ 1048576 := by unfold words0; omega
theorem base0_le (n base : Int) : base0 n base ≤ words0 n := by unfold base0; omega
theorem wordsf_any (n : Int) (w : World) : Calls Try.prog 40 #[.int .i64 n] w fun e w' => e = .returned (.int .i64 (words0 n : Int)) ∧ w = w' := by
  have hE : ∀ x : Int, x = (words0 n : Int) → Ending.returned (.int .i64 x) = .returned (.int .i64 (words0 n : Int)) := fun x h => by rw [h]
  have hw : (words0 n : Int) = min (max n 0) 1048576 := by unfold words0; omega
  by_cases h0 : n < 0
  · have hv : (0 : Int) = (words0 n : Int) := by omega
    have HE := Lib.hid (hE _ hv)
    clear hE hw hv
    go_enter Try.func40, Try.ntmps40
    go_wp2_with fail
    go_ret
    exact ⟨HE.out, rfl⟩
  · by_cases h1 : 1048576 < n
    · have hv : (1048576 : Int) = (words0 n : Int) := by omega
      have HE := Lib.hid (hE _ hv)
      clear hE hw hv
      go_enter Try.func40, Try.ntmps40
      go_wp2_with fail
      go_ret
      exact ⟨HE.out, rfl⟩
    · have hv : n = (words0 n : Int) := by omega
      have HE := Lib.hid (hE _ hv)
      clear hE hw hv
      go_enter Try.func40, Try.ntmps40
      go_wp2_with fail
      go_ret
      exact ⟨HE.out, rfl⟩

def SSt.new (code : List (Int × Int)) (N base : Nat) (inp : List Int) : SSt := ⟨code, zeros N, inp, [], base, base, [], 0, [], 0, 0⟩
def CodeOk (code : List (Int × Int)) : Prop := ∀ c ∈ code, -9223372036854775808 ≤ c.1 ∧ c.1 ≤ 9223372036854775807 ∧ I32 c.2
theorem zeros_all (n : Nat) : ∀ x ∈ zeros n, I32 x := fun x hx => by
  obtain ⟨_, rfl⟩ := List.mem_replicate.1 hx
  unfold I32; omega
theorem sfit_new {code : List (Int × Int)} {inp : List Int} {N base : Nat} (hk : CodeOk code) (hkl : code.length ≤ 1000000) (hi : ∀ x ∈ inp, Byt x) (hil : inp.length ≤ 1000000) (hN : N ≤ 1048576) (hb : base ≤ N) : SFit (SSt.new code N base inp) := by
  have hml : (SSt.new code N base inp).mem.length = N := by simp [SSt.new, zeros]
  refine ⟨hk, hkl, zeros_all N, by rw [hml]; exact hN, hi, hil, (fun x hx => nomatch hx), Nat.zero_le _, ?_, ?_, ?_, ?_, Nat.zero_le _, (fun x hx => nomatch hx), ?_, ?_, (fun x hx => nomatch hx)⟩
  · show (0 : Int) ≤ (base : Int); omega
  · rw [hml]; show (base : Int) ≤ (N : Int); omega
  · show (0 : Int) ≤ (base : Int); omega
  · rw [hml]; show (base : Int) ≤ (N : Int); omega
  · show (-2147483648 : Int) ≤ 0; decide
  · show (0 : Int) ≤ 2147483648; decide
theorem sm_new {p : Bool} {w' : World} {B q g N base : Nat} {cv iv : Value} {code : List (Int × Int)} {inp : List Int} (hk : CodeOk code) (hkl : code.length ≤ 1000000) (hi : ∀ x ∈ inp, Byt x) (hil : inp.length ≤ 1000000) (hN : N ≤ 1048576) (hb : base ≤ N)
    (hq : w'.heap[q]? = some (.cells (cellsS p (SSt.new code N base inp) cv (.slice (some ⟨g, 0, none⟩) N N) iv (.slice none 0 0) (.slice none 0 0) (.slice none 0 0)).toArray (typeS p) (0, 0)))
    (hg : w'.heap[g]? = some (.cells (zeroCells N) 21 (0, 0))) (hc : Rd w' 2 cv code.length (codeCells code)) (hin : Rd w' 1 iv inp.length (byt inp)) (hqB : B ≤ q) (hgB : B ≤ g) (hgq : g ≠ q)
    (hcq : ∀ k, cv.ownBlock = some k → 0 < code.length → k ≠ q ∧ k ≠ g) (hiq : ∀ k, iv.ownBlock = some k → 0 < inp.length → k ≠ q ∧ k ≠ g) :
    SM p w' B q (fun k => k = q ∨ k = g) cv (.slice (some ⟨g, 0, none⟩) N N) iv (.slice none 0 0) (.slice none 0 0) (.slice none 0 0) (SSt.new code N base inp) := by
  have hml : (SSt.new code N base inp).mem.length = N := by simp [SSt.new, zeros]
  have hno : ∀ k, (Value.slice none 0 0).ownBlock = some k → False := fun k hk => by simp [Value.ownBlock] at hk
  have hnil : ∀ e size : Nat, Row p w' B e size (.slice none 0 0) 0 [] := fun e size => by
    cases p
    · exact Rd.nil w' size
    · exact World.ownsRow_nil _ _ _ _
  refine ⟨sfit_new hk hkl hi hil hN hb, hq, hc, ?_, hin, hnil _ _, hnil _ _, World.ownsRow_nil _ _ _ _, .inl rfl, ?_, fun k hk => (hno k hk).elim, fun k hk => (hno k hk).elim, fun k hk => (hno k hk).elim, fun k _ h2 => hno k h2, fun k _ h2 => hno k h2, fun k _ h2 => hno k h2, fun k h1 _ => hno k h1, fun k h1 _ => hno k h1, fun k h1 _ => hno k h1, ?_, ?_, ?_, by simp [Value.ownBlock]⟩
  · rw [hml]
    refine ⟨by simp [SSt.new, i32s, zeros], .inr ⟨g, N, _, rfl, hgB, hg, Nat.le_refl _, by simp only [maxLen]; omega, by simp [zeroCells, madeCells], ?_⟩⟩
    show List.take _ (zeroCells N).toList = i32s (zeros N)
    rw [zeroCells_list, List.take_of_length_le (by simp [i32s, zeros])]
  · intro k hk
    have : k = g := by simpa [Value.ownBlock] using hk.symm
    subst this; exact ⟨.inr rfl, hgq⟩
  · rintro k (rfl | rfl)
    · exact ⟨hqB, (Array.getElem?_eq_some_iff.1 hq).1⟩
    · exact ⟨hgB, (Array.getElem?_eq_some_iff.1 hg).1⟩
  · intro k hk hn; have := hcq k hk hn; rintro (h | h)
    · exact this.1 h
    · exact this.2 h
  · intro k hk hn; have := hiq k hk hn; rintro (h | h)
    · exact this.1 h
    · exact this.2 h
def NewPost (p : Bool) (w : World) (code : List (Int × Int)) (N base : Nat) (inp : List Int) (cb ib : Nat → Prop) (e : Ending) (w' : World) : Prop :=
  ∃ q F cv mv iv, e = .returned (.pointer (some ⟨q, 0, none⟩)) ∧ SM p w' w.heap.size q F cv mv iv (.slice none 0 0) (.slice none 0 0) (.slice none 0 0) (SSt.new code N base inp) ∧ (∀ k, cv.ownBlock = some k → 0 < code.length → cb k) ∧ (∀ k, iv.ownBlock = some k → 0 < inp.length → ib k) ∧ Below w.heap.size w w'
theorem rd_block {w : World} {size n : Nat} {v : Value} {cs : List Value} (h : Rd w size v n cs) (hs : 0 < size) (hn : 0 < n) {k : Nat} (hk : v.ownBlock = some k) : k < w.heap.size := rd_lt h hs hn hk
/-- How the base is taken, of a number of words. -/
def baseOf (base : Int) (N : Nat) : Nat := (min (max base 0) (N : Int)).toNat
theorem baseOf_le (base : Int) (N : Nat) : baseOf base N ≤ N := by unfold baseOf; omega
theorem base_cases (base : Int) (N : Nat) : (base < 0 ∧ baseOf base N = 0) ∨ (0 ≤ base ∧ (N : Int) < base ∧ baseOf base N = N) ∨ (0 ≤ base ∧ base ≤ (N : Int) ∧ ((baseOf base N : Nat) : Int) = base) := by unfold baseOf; omega
set_option maxHeartbeats 1600000 in
theorem rnew_any (w : World) (cv iv : Value) (n base : Int) (N : Nat) (code : List (Int × Int)) (inp : List Int) (hk : CodeOk code) (hkl : code.length ≤ 1000000) (hi : ∀ x ∈ inp, Byt x) (hil : inp.length ≤ 1000000) (hN : N = words0 n)
    (hc : Rd w 2 cv code.length (codeCells code)) (hin : Rd w 1 iv inp.length (byt inp)) :
    Calls Try.prog 25 #[cv, .int .i64 n, .int .i64 base, iv] w (NewPost false w code N (baseOf base N) inp (fun k => cv.ownBlock = some k) (fun k => iv.ownBlock = some k)) := by
  have hNl : N ≤ 1048576 := by rw [hN]; exact words0_le n
  have hw := fun W => wordsf_any n W
  rw [← hN] at hw
  have hm := fun W => make_eq N hNl W
  have hcb := fun k (hk : cv.ownBlock = some k) (hn : 0 < code.length) => rd_block hc (by decide) hn hk
  have hib := fun k (hk : iv.ownBlock = some k) (hn : 0 < inp.length) => rd_block hin (by decide) hn hk
  obtain ⟨ca, cc, rfl, _, _, _⟩ := rd_shape hc
  obtain ⟨ia, ic, rfl, _, _, _⟩ := rd_shape hin
  have HW := Lib.hid hw
  have HC := Lib.hid hc
  have HI := Lib.hid hin
  have HCB := Lib.hid hcb
  have HIB := Lib.hid hib
  have HBL := Lib.hid (baseOf_le base N)
  have HB := Lib.hid (show ∀ O : Obj, Below w.heap.size w ((w.alloc (.cells (zeroCells N) 21)).alloc O) from fun O => (((Below.refl w.heap.size w).alloc (Nat.le_refl _) _).alloc (by simp) O))
  have hbc := base_cases base N
  obtain ⟨b, hbe⟩ : ∃ b, b = baseOf base N := ⟨_, rfl⟩
  rw [← hbe] at hbc HBL
  rw [← hbe]
  have hfin : NewPost false w code N b inp (fun k => (Value.slice ca code.length cc).ownBlock = some k) (fun k => (Value.slice ia inp.length ic).ownBlock = some k) (.returned (.pointer (some ⟨w.heap.size + 1, 0, none⟩))) ((w.alloc (.cells (zeroCells N) 21)).alloc (.cells (cellsS false (SSt.new code N b inp) (.slice ca code.length cc) (.slice (some ⟨w.heap.size, 0, none⟩) N N) (.slice ia inp.length ic) (.slice none 0 0) (.slice none 0 0) (.slice none 0 0)).toArray (typeS false) (0, 0))) := by
    refine ⟨w.heap.size + 1, _, _, _, _, rfl, sm_new (p := false) (g := w.heap.size) hk hkl hi hil hNl HBL.out ?_ ?_ (HC.out.below (HB.out _) (Nat.le_refl _)) (HI.out.below (HB.out _) (Nat.le_refl _)) (by omega) (Nat.le_refl _) (by omega) (fun k h hn => ?_) (fun k h hn => ?_), fun k h _ => h, fun k h _ => h, HB.out _⟩
    · have h := heap_alloc_new (w.alloc (.cells (zeroCells N) 21)) (.cells (cellsS false (SSt.new code N b inp) (.slice ca code.length cc) (.slice (some ⟨w.heap.size, 0, none⟩) N N) (.slice ia inp.length ic) (.slice none 0 0) (.slice none 0 0) (.slice none 0 0)).toArray (typeS false) (0, 0))
      rw [World.size_alloc] at h
      exact h
    · exact blk_alloc (heap_alloc_new w _) _
    · have := HCB.out k h hn; omega
    · have := HIB.out k h hn; omega
  have HF := Lib.hid hfin
  clear hN hw hc hin hcb hib hbe hfin
  rcases hbc with ⟨hb1, rfl⟩ | ⟨hb1, hb2, rfl⟩ | ⟨hb1, hb2, rfl⟩
  · go_enter Try.func25, Try.ntmps25
    go_wp2_with (go_at_call 40; refine (HW.out _).mono ?_; rintro e w' ⟨rfl, rfl⟩)
    go_ret
    exact HF.out
  · have hb3 : ¬ base < 0 := by omega
    go_enter Try.func25, Try.ntmps25
    go_wp2_with (go_at_call 40; refine (HW.out _).mono ?_; rintro e w' ⟨rfl, rfl⟩)
    go_ret
    exact HF.out
  · go_enter Try.func25, Try.ntmps25
    go_wp2_with (go_at_call 40; refine (HW.out _).mono ?_; rintro e w' ⟨rfl, rfl⟩)
    go_ret
    exact HF.out
end Go.Proofs.Ytgkdphnhfjjepaa

/- The program's New. -/
namespace Go.Proofs.Ytgkdphnhfjjepaa
open Go.RowKit Go.Waf
set_option maxRecDepth 100000
set_option linter.unusedVariables false
set_option linter.unusedSimpArgs false

theorem new_core {w X : World} {v1 v2 : Value} {g N base : Nat} {code : List (Int × Int)} {inp : List Int} (hk : CodeOk code) (hkl : code.length ≤ 1000000) (hi : ∀ x ∈ inp, Byt x) (hil : inp.length ≤ 1000000) (hN : N ≤ 1048576) (hbs : base ≤ N)
    (hg : X.heap[g]? = some (.cells (zeroCells N) 21 (0, 0))) (h1 : Rd X 2 v1 code.length (codeCells code)) (h2 : Rd X 1 v2 inp.length (byt inp)) (hb : Below w.heap.size w X) (hgB : w.heap.size ≤ g)
    (k1 : ∀ k, v1.ownBlock = some k → w.heap.size ≤ k ∧ k < X.heap.size ∧ k ≠ g) (k2 : ∀ k, v2.ownBlock = some k → w.heap.size ≤ k ∧ k < X.heap.size ∧ k ≠ g) :
    NewPost true w code N base inp (fun k => w.heap.size ≤ k) (fun k => w.heap.size ≤ k) (.returned (.pointer (some ⟨X.heap.size, 0, none⟩)))
      (X.alloc (.cells (cellsS true (SSt.new code N base inp) v1 (.slice (some ⟨g, 0, none⟩) N N) v2 (.slice none 0 0) (.slice none 0 0) (.slice none 0 0)).toArray (typeS true) (0, 0))) := by
  have hgl := (Array.getElem?_eq_some_iff.1 hg).1
  have hA : ∀ O : Obj, Below X.heap.size X (X.alloc O) := fun O => (Below.refl _ _).alloc (Nat.le_refl _) O
  refine ⟨X.heap.size, _, _, _, _, rfl, sm_new (p := true) (g := g) hk hkl hi hil hN hbs (heap_alloc_new X _) (blk_alloc hg _) (h1.below (hA _) (Nat.le_refl _)) (h2.below (hA _) (Nat.le_refl _)) hb.size hgB (by omega) (fun k h _ => ?_) (fun k h _ => ?_), fun k h _ => (k1 k h).1, fun k h _ => (k2 k h).1, hb.alloc hb.size _⟩
  · have := k1 k h; omega
  · have := k2 k h; omega
section
variable {w X w1 w2 : World} {v1 v2 : Value} {N base : Nat} {code : List (Int × Int)} {inp : List Int}
def pbox (code : List (Int × Int)) (N base : Nat) (inp : List Int) (v1 v2 : Value) (g : Nat) : Obj := .cells (cellsS true (SSt.new code N base inp) v1 (.slice (some ⟨g, 0, none⟩) N N) v2 (.slice none 0 0) (.slice none 0 0) (.slice none 0 0)).toArray (typeS true) (0, 0)
theorem fin_a (hk : CodeOk code) (hkl : code.length ≤ 1000000) (hi : ∀ x ∈ inp, Byt x) (hil : inp.length ≤ 1000000) (hN : N ≤ 1048576) (hbs : base ≤ N) (hX : Below w.heap.size w X) (ho1 : w1.ownsRow X.heap.size 25 2 v1 code.length (codeCells code)) (b1 : Below X.heap.size X w1)
    (ho2 : w2.ownsRow (w1.alloc (.cells (zeroCells N) 21)).heap.size 5 1 v2 inp.length (byt inp)) (b2 : Below (w1.alloc (.cells (zeroCells N) 21)).heap.size (w1.alloc (.cells (zeroCells N) 21)) w2) :
    NewPost true w code N base inp (fun k => w.heap.size ≤ k) (fun k => w.heap.size ≤ k) (.returned (.pointer (some ⟨w2.heap.size, 0, none⟩))) (w2.alloc (pbox code N base inp v1 v2 w1.heap.size)) := by
  have hs1 := b1.size
  have hs0 := hX.size
  have hs2 := b2.size
  rw [World.size_alloc] at hs2 ho2
  have hb1 : Below w.heap.size w w1 := hX.trans (b1.mono hs0)
  have hb2 : Below w1.heap.size w1 w2 := ((Below.refl _ _).alloc (Nat.le_refl _) _).trans (b2.mono (by simp))
  refine new_core hk hkl hi hil hN hbs ?_ ((rd_of_owns ho1).below hb2 (Nat.le_refl _)) (rd_of_owns ho2) (hb1.trans (hb2.mono hb1.size)) hb1.size (fun k h => ?_) (fun k h => ?_)
  · rw [b2.block _ (by simp)]; exact heap_alloc_new _ _
  · have := ho1.lt k h; omega
  · have := ho2.lt k h; omega
theorem fin_b (hk : CodeOk code) (hkl : code.length ≤ 1000000) (hi : ∀ x ∈ inp, Byt x) (hil : inp.length ≤ 1000000) (hN : N ≤ 1048576) (hbs : base ≤ N) (hX : Below w.heap.size w X) (ho1 : w1.ownsRow X.heap.size 25 2 v1 code.length (codeCells code)) (b1 : Below X.heap.size X w1)
    (ho2 : w2.ownsRow w1.heap.size 5 1 v2 inp.length (byt inp)) (b2 : Below w1.heap.size w1 w2) :
    NewPost true w code N base inp (fun k => w.heap.size ≤ k) (fun k => w.heap.size ≤ k) (.returned (.pointer (some ⟨w2.heap.size + 1, 0, none⟩))) ((w2.alloc (.cells (zeroCells N) 21)).alloc (pbox code N base inp v1 v2 w2.heap.size)) := by
  have hs1 := b1.size
  have hs0 := hX.size
  have hs2 := b2.size
  have hA : ∀ O : Obj, Below w2.heap.size w2 (w2.alloc O) := fun O => (Below.refl _ _).alloc (Nat.le_refl _) O
  have hb1 : Below w.heap.size w w1 := hX.trans (b1.mono hs0)
  have hb2 : Below w.heap.size w w2 := hb1.trans (b2.mono hb1.size)
  have hc := new_core (w := w) (X := w2.alloc (.cells (zeroCells N) 21)) (v1 := v1) (v2 := v2) (g := w2.heap.size) hk hkl hi hil hN hbs (heap_alloc_new _ _) (((rd_of_owns ho1).below b2 (Nat.le_refl _)).below (hA _) (Nat.le_refl _)) ((rd_of_owns ho2).below (hA _) (Nat.le_refl _)) (hb2.alloc hb2.size _) hb2.size (fun k h => by have := ho1.lt k h; simp; omega) (fun k h => by have := ho2.lt k h; simp; omega)
  rw [World.size_alloc] at hc
  exact hc
theorem fin_e (hk : CodeOk code) (hkl : code.length ≤ 1000000) (hi : ∀ x ∈ inp, Byt x) (hil : inp.length ≤ 1000000) (hN : N ≤ 1048576) (hbs : base ≤ N) (hX : Below w.heap.size w X) (ho1 : w1.ownsRow (X.alloc (.cells (zeroCells N) 21)).heap.size 25 2 v1 code.length (codeCells code)) (b1 : Below (X.alloc (.cells (zeroCells N) 21)).heap.size (X.alloc (.cells (zeroCells N) 21)) w1)
    (ho2 : w2.ownsRow w1.heap.size 5 1 v2 inp.length (byt inp)) (b2 : Below w1.heap.size w1 w2) :
    NewPost true w code N base inp (fun k => w.heap.size ≤ k) (fun k => w.heap.size ≤ k) (.returned (.pointer (some ⟨w2.heap.size, 0, none⟩))) (w2.alloc (pbox code N base inp v1 v2 X.heap.size)) := by
  have hs1 := b1.size
  have hs0 := hX.size
  have hs2 := b2.size
  rw [World.size_alloc] at hs1 ho1
  have hb1 : Below w.heap.size w w1 := (hX.alloc hs0 _).trans (b1.mono (by simp; omega))
  have hb2 : Below w.heap.size w w2 := hb1.trans (b2.mono hb1.size)
  refine new_core hk hkl hi hil hN hbs ?_ ((rd_of_owns ho1).below b2 (Nat.le_refl _)) (rd_of_owns ho2) hb2 hs0 (fun k h => ?_) (fun k h => ?_)
  · rw [b2.block _ (by omega), b1.block _ (by simp)]; exact heap_alloc_new _ _
  · have := ho1.lt k h; omega
  · have := ho2.lt k h; omega
theorem fin_e' (hk : CodeOk code) (hkl : code.length ≤ 1000000) (hi : ∀ x ∈ inp, Byt x) (hil : inp.length ≤ 1000000) (hN : N ≤ 1048576) (hbs : base ≤ N) (ho1 : w1.ownsRow (w.alloc (.cells (zeroCells N) 21)).drew.heap.size 25 2 v1 code.length (codeCells code)) (b1 : Below (w.alloc (.cells (zeroCells N) 21)).drew.heap.size (w.alloc (.cells (zeroCells N) 21)).drew w1)
    (ho2 : w2.ownsRow w1.heap.size 5 1 v2 inp.length (byt inp)) (b2 : Below w1.heap.size w1 w2) :
    NewPost true w code N base inp (fun k => w.heap.size ≤ k) (fun k => w.heap.size ≤ k) (.returned (.pointer (some ⟨w2.heap.size, 0, none⟩))) (w2.alloc (pbox code N base inp v1 v2 w.heap.size)) :=
  fin_e (X := w) hk hkl hi hil hN hbs (Below.refl _ _) ho1 ⟨b1.os, b1.tape, b1.output, b1.size, b1.block⟩ ho2 b2
end
theorem bl_1 (w : World) : Below w.heap.size w w.drew := (Below.refl _ _).drew
theorem bl_2 (w : World) (O : Obj) : Below w.heap.size w (w.alloc O).drew := ((Below.refl _ _).alloc (Nat.le_refl _) O).drew
theorem bl_3 {w w1 : World} (b : Below w.drew.heap.size w.drew w1) : Below w.heap.size w w1 := ((Below.refl _ _).drew).trans b
theorem bl_4 {w w1 : World} {O : Obj} (b : Below w.drew.heap.size w.drew w1) : Below w.heap.size w (w1.alloc O) := (bl_3 b).alloc (bl_3 b).size O
theorem bl_5 {w w1 : World} {O : Obj} (b : Below (w.alloc O).drew.heap.size (w.alloc O).drew w1) : Below w.heap.size w w1 := (bl_2 w O).trans (b.mono (bl_2 w O).size)
set_option maxHeartbeats 6400000 in
theorem pnew_nb (w : World) (cv iv : Value) (N : Nat) (n base : Int) (hn : n = N) (hb : base < 0) (code : List (Int × Int)) (inp : List Int) (hk : CodeOk code) (hkl : code.length ≤ 1000000) (hi : ∀ x ∈ inp, Byt x) (hil : inp.length ≤ 1000000) (hN : N ≤ 1048576)
    (hc : Rd w 2 cv code.length (codeCells code)) (hin : Rd w 1 iv inp.length (byt inp)) :
    Calls Try.prog 12 #[cv, .int .i64 n, .int .i64 base, iv] w (NewPost true w code N 0 inp (fun k => w.heap.size ≤ k) (fun k => w.heap.size ≤ k)) := by
  obtain ⟨ca, cc, rfl, _, _, _⟩ := rd_shape hc
  obtain ⟨ia, ic, rfl, _, _, _⟩ := rd_shape hin
  have HC := Lib.hid hc
  have HI := Lib.hid hin
  clear hc hin
  subst hn
  have h1 : ¬ (N : Int) < 0 := by omega
  have h2 : ¬ 1048576 < (N : Int) := by omega
  have hbl : 0 ≤ N := by omega
  have hm := fun W => make_eq N hN W
  go_enter Try.func12, Try.ntmps12
  go_wp2_with fail
  go_region_held3 (fun _ => True) (trivial) ((first
    | (go_at_call 35; refine ownRet_mono (cloneC_any _ _ _ code (HC.out.below (by with_reducible first | exact bl_1 w | exact bl_2 w _) (Nat.le_refl _)) (by omega)) _ ?_; intro v1 w1 ho1 b1; obtain ⟨a1, c1, rfl, _, _, _⟩ := owns_shape ho1)
    | (go_at_call 36; refine ownRet_mono (cloneB_any _ _ _ inp (HI.out.below (by with_reducible first | exact bl_3 b1 | exact bl_4 b1 | exact bl_5 b1) (Nat.le_refl _)) (by omega)) _ ?_; intro v2 w2 ho2 b2; obtain ⟨a2, c2, rfl, _, _, _⟩ := owns_shape ho2)))
  all_goals (go_wp2_with fail)
  all_goals go_ret
  all_goals first
    | exact fin_a hk hkl hi hil hN hbl (bl_1 w) ho1 b1 ho2 b2
    | exact fin_b hk hkl hi hil hN hbl (bl_1 w) ho1 b1 ho2 b2
    | exact fin_e' hk hkl hi hil hN hbl ho1 b1 ho2 b2
set_option maxHeartbeats 6400000 in
theorem pnew_no (w : World) (cv iv : Value) (N : Nat) (n base : Int) (hn : n = N) (hb : (N : Int) < base) (code : List (Int × Int)) (inp : List Int) (hk : CodeOk code) (hkl : code.length ≤ 1000000) (hi : ∀ x ∈ inp, Byt x) (hil : inp.length ≤ 1000000) (hN : N ≤ 1048576)
    (hc : Rd w 2 cv code.length (codeCells code)) (hin : Rd w 1 iv inp.length (byt inp)) :
    Calls Try.prog 12 #[cv, .int .i64 n, .int .i64 base, iv] w (NewPost true w code N N inp (fun k => w.heap.size ≤ k) (fun k => w.heap.size ≤ k)) := by
  obtain ⟨ca, cc, rfl, _, _, _⟩ := rd_shape hc
  obtain ⟨ia, ic, rfl, _, _, _⟩ := rd_shape hin
  have HC := Lib.hid hc
  have HI := Lib.hid hin
  clear hc hin
  subst hn
  have h1 : ¬ (N : Int) < 0 := by omega
  have h2 : ¬ 1048576 < (N : Int) := by omega
  have h3 : ¬ base < 0 := by omega
  have hbl : N ≤ N := by omega
  have hm := fun W => make_eq N hN W
  go_enter Try.func12, Try.ntmps12
  go_wp2_with fail
  go_region_held3 (fun _ => True) (trivial) ((first
    | (go_at_call 35; refine ownRet_mono (cloneC_any _ _ _ code (HC.out.below (by with_reducible first | exact bl_1 w | exact bl_2 w _) (Nat.le_refl _)) (by omega)) _ ?_; intro v1 w1 ho1 b1; obtain ⟨a1, c1, rfl, _, _, _⟩ := owns_shape ho1)
    | (go_at_call 36; refine ownRet_mono (cloneB_any _ _ _ inp (HI.out.below (by with_reducible first | exact bl_3 b1 | exact bl_4 b1 | exact bl_5 b1) (Nat.le_refl _)) (by omega)) _ ?_; intro v2 w2 ho2 b2; obtain ⟨a2, c2, rfl, _, _, _⟩ := owns_shape ho2)))
  all_goals (go_wp2_with fail)
  all_goals go_ret
  all_goals first
    | exact fin_a hk hkl hi hil hN hbl (bl_1 w) ho1 b1 ho2 b2
    | exact fin_b hk hkl hi hil hN hbl (bl_1 w) ho1 b1 ho2 b2
    | exact fin_e' hk hkl hi hil hN hbl ho1 b1 ho2 b2
set_option maxHeartbeats 6400000 in
theorem pnew_ni (w : World) (cv iv : Value) (N b : Nat) (n base : Int) (hn : n = N) (hb : base = (b : Int)) (hbl : b ≤ N) (code : List (Int × Int)) (inp : List Int) (hk : CodeOk code) (hkl : code.length ≤ 1000000) (hi : ∀ x ∈ inp, Byt x) (hil : inp.length ≤ 1000000) (hN : N ≤ 1048576)
    (hc : Rd w 2 cv code.length (codeCells code)) (hin : Rd w 1 iv inp.length (byt inp)) :
    Calls Try.prog 12 #[cv, .int .i64 n, .int .i64 base, iv] w (NewPost true w code N b inp (fun k => w.heap.size ≤ k) (fun k => w.heap.size ≤ k)) := by
  obtain ⟨ca, cc, rfl, _, _, _⟩ := rd_shape hc
  obtain ⟨ia, ic, rfl, _, _, _⟩ := rd_shape hin
  have HC := Lib.hid hc
  have HI := Lib.hid hin
  clear hc hin
  subst hn hb
  have h1 : ¬ (N : Int) < 0 := by omega
  have h2 : ¬ 1048576 < (N : Int) := by omega
  have h3 : ¬ (b : Int) < 0 := by omega
  have h4 : ¬ (N : Int) < (b : Int) := by omega
  have hm := fun W => make_eq N hN W
  go_enter Try.func12, Try.ntmps12
  go_wp2_with fail
  go_region_held3 (fun _ => True) (trivial) ((first
    | (go_at_call 35; refine ownRet_mono (cloneC_any _ _ _ code (HC.out.below (by with_reducible first | exact bl_1 w | exact bl_2 w _) (Nat.le_refl _)) (by omega)) _ ?_; intro v1 w1 ho1 b1; obtain ⟨a1, c1, rfl, _, _, _⟩ := owns_shape ho1)
    | (go_at_call 36; refine ownRet_mono (cloneB_any _ _ _ inp (HI.out.below (by with_reducible first | exact bl_3 b1 | exact bl_4 b1 | exact bl_5 b1) (Nat.le_refl _)) (by omega)) _ ?_; intro v2 w2 ho2 b2; obtain ⟨a2, c2, rfl, _, _, _⟩ := owns_shape ho2)))
  all_goals (go_wp2_with fail)
  all_goals go_ret
  all_goals first
    | exact fin_a hk hkl hi hil hN hbl (bl_1 w) ho1 b1 ho2 b2
    | exact fin_b hk hkl hi hil hN hbl (bl_1 w) ho1 b1 ho2 b2
    | exact fin_e' hk hkl hi hil hN hbl ho1 b1 ho2 b2
set_option maxHeartbeats 6400000 in
theorem pnew_zb (w : World) (cv iv : Value) (N : Nat) (n base : Int) (hn0 : n < 0) (hN0 : N = 0) (hb : base < 0) (code : List (Int × Int)) (inp : List Int) (hk : CodeOk code) (hkl : code.length ≤ 1000000) (hi : ∀ x ∈ inp, Byt x) (hil : inp.length ≤ 1000000) (hN : N ≤ 1048576)
    (hc : Rd w 2 cv code.length (codeCells code)) (hin : Rd w 1 iv inp.length (byt inp)) :
    Calls Try.prog 12 #[cv, .int .i64 n, .int .i64 base, iv] w (NewPost true w code N 0 inp (fun k => w.heap.size ≤ k) (fun k => w.heap.size ≤ k)) := by
  obtain ⟨ca, cc, rfl, _, _, _⟩ := rd_shape hc
  obtain ⟨ia, ic, rfl, _, _, _⟩ := rd_shape hin
  have HC := Lib.hid hc
  have HI := Lib.hid hin
  clear hc hin
  subst hN0
  have hbl : 0 ≤ 0 := by omega
  have hm' : ∀ W : World, (Instr.makeSlice 33 (.int .i64 0) (.int .i64 0)).run Try.prog W = .ok (.slice (some ⟨W.heap.size, 0, none⟩) 0 0) (W.alloc (.cells (zeroCells 0) 21)) := fun W => make_eq 0 (by omega) W
  go_enter Try.func12, Try.ntmps12
  go_wp2_with fail
  go_region_held3 (fun _ => True) (trivial) ((first
    | (go_at_call 35; refine ownRet_mono (cloneC_any _ _ _ code (HC.out.below (by with_reducible first | exact bl_1 w | exact bl_2 w _) (Nat.le_refl _)) (by omega)) _ ?_; intro v1 w1 ho1 b1; obtain ⟨a1, c1, rfl, _, _, _⟩ := owns_shape ho1)
    | (go_at_call 36; refine ownRet_mono (cloneB_any _ _ _ inp (HI.out.below (by with_reducible first | exact bl_3 b1 | exact bl_4 b1 | exact bl_5 b1) (Nat.le_refl _)) (by omega)) _ ?_; intro v2 w2 ho2 b2; obtain ⟨a2, c2, rfl, _, _, _⟩ := owns_shape ho2)))
  all_goals (go_wp2_with fail)
  all_goals go_ret
  all_goals first
    | exact fin_a hk hkl hi hil hN hbl (bl_1 w) ho1 b1 ho2 b2
    | exact fin_b hk hkl hi hil hN hbl (bl_1 w) ho1 b1 ho2 b2
    | exact fin_e' hk hkl hi hil hN hbl ho1 b1 ho2 b2
set_option maxHeartbeats 6400000 in
theorem pnew_zo (w : World) (cv iv : Value) (N : Nat) (n base : Int) (hn0 : n < 0) (hN0 : N = 0) (hb : 0 ≤ base) (code : List (Int × Int)) (inp : List Int) (hk : CodeOk code) (hkl : code.length ≤ 1000000) (hi : ∀ x ∈ inp, Byt x) (hil : inp.length ≤ 1000000) (hN : N ≤ 1048576)
    (hc : Rd w 2 cv code.length (codeCells code)) (hin : Rd w 1 iv inp.length (byt inp)) :
    Calls Try.prog 12 #[cv, .int .i64 n, .int .i64 base, iv] w (NewPost true w code N 0 inp (fun k => w.heap.size ≤ k) (fun k => w.heap.size ≤ k)) := by
  obtain ⟨ca, cc, rfl, _, _, _⟩ := rd_shape hc
  obtain ⟨ia, ic, rfl, _, _, _⟩ := rd_shape hin
  have HC := Lib.hid hc
  have HI := Lib.hid hin
  clear hc hin
  subst hN0
  have h3 : ¬ base < 0 := by omega
  have hbl : 0 ≤ 0 := by omega
  have hm' : ∀ W : World, (Instr.makeSlice 33 (.int .i64 0) (.int .i64 0)).run Try.prog W = .ok (.slice (some ⟨W.heap.size, 0, none⟩) 0 0) (W.alloc (.cells (zeroCells 0) 21)) := fun W => make_eq 0 (by omega) W
  rcases (by omega : base = 0 ∨ 0 < base) with rfl | h5
  · go_enter Try.func12, Try.ntmps12
    go_wp2_with fail
    go_region_held3 (fun _ => True) (trivial) ((first
      | (go_at_call 35; refine ownRet_mono (cloneC_any _ _ _ code (HC.out.below (by with_reducible first | exact bl_1 w | exact bl_2 w _) (Nat.le_refl _)) (by omega)) _ ?_; intro v1 w1 ho1 b1; obtain ⟨a1, c1, rfl, _, _, _⟩ := owns_shape ho1)
      | (go_at_call 36; refine ownRet_mono (cloneB_any _ _ _ inp (HI.out.below (by with_reducible first | exact bl_3 b1 | exact bl_4 b1 | exact bl_5 b1) (Nat.le_refl _)) (by omega)) _ ?_; intro v2 w2 ho2 b2; obtain ⟨a2, c2, rfl, _, _, _⟩ := owns_shape ho2)))
    all_goals (go_wp2_with fail)
    all_goals go_ret
    all_goals first
      | exact fin_a hk hkl hi hil hN hbl (bl_1 w) ho1 b1 ho2 b2
      | exact fin_b hk hkl hi hil hN hbl (bl_1 w) ho1 b1 ho2 b2
      | exact fin_e' hk hkl hi hil hN hbl ho1 b1 ho2 b2
  · go_enter Try.func12, Try.ntmps12
    go_wp2_with fail
    go_region_held3 (fun _ => True) (trivial) ((first
      | (go_at_call 35; refine ownRet_mono (cloneC_any _ _ _ code (HC.out.below (by with_reducible first | exact bl_1 w | exact bl_2 w _) (Nat.le_refl _)) (by omega)) _ ?_; intro v1 w1 ho1 b1; obtain ⟨a1, c1, rfl, _, _, _⟩ := owns_shape ho1)
      | (go_at_call 36; refine ownRet_mono (cloneB_any _ _ _ inp (HI.out.below (by with_reducible first | exact bl_3 b1 | exact bl_4 b1 | exact bl_5 b1) (Nat.le_refl _)) (by omega)) _ ?_; intro v2 w2 ho2 b2; obtain ⟨a2, c2, rfl, _, _, _⟩ := owns_shape ho2)))
    all_goals (go_wp2_with fail)
    all_goals go_ret
    all_goals first
      | exact fin_a hk hkl hi hil hN hbl (bl_1 w) ho1 b1 ho2 b2
      | exact fin_b hk hkl hi hil hN hbl (bl_1 w) ho1 b1 ho2 b2
      | exact fin_e' hk hkl hi hil hN hbl ho1 b1 ho2 b2
theorem pnew_any (w : World) (cv iv : Value) (N : Nat) (n base : Int) (hn : n = N ∨ (n < 0 ∧ N = 0)) (code : List (Int × Int)) (inp : List Int) (hk : CodeOk code) (hkl : code.length ≤ 1000000) (hi : ∀ x ∈ inp, Byt x) (hil : inp.length ≤ 1000000) (hN : N ≤ 1048576)
    (hc : Rd w 2 cv code.length (codeCells code)) (hin : Rd w 1 iv inp.length (byt inp)) :
    Calls Try.prog 12 #[cv, .int .i64 n, .int .i64 base, iv] w (NewPost true w code N (baseOf base N) inp (fun k => w.heap.size ≤ k) (fun k => w.heap.size ≤ k)) := by
  rcases hn with hn | ⟨hn, hz⟩
  · rcases base_cases base N with ⟨hb, e⟩ | ⟨_, hb, e⟩ | ⟨hb, hb2, e⟩
    · rw [e]; exact pnew_nb w cv iv N n base hn hb code inp hk hkl hi hil hN hc hin
    · rw [e]; exact pnew_no w cv iv N n base hn hb code inp hk hkl hi hil hN hc hin
    · exact pnew_ni w cv iv N (baseOf base N) n base hn e.symm (baseOf_le _ _) code inp hk hkl hi hil hN hc hin
  · subst hz
    have e : baseOf base 0 = 0 := by unfold baseOf; omega
    rw [e]
    by_cases hb : base < 0
    · exact pnew_zb w cv iv 0 n base hn rfl hb code inp hk hkl hi hil hN hc hin
    · exact pnew_zo w cv iv 0 n base hn rfl (by omega) code inp hk hkl hi hil hN hc hin
end Go.Proofs.Ytgkdphnhfjjepaa

/- What the laws compare: results, lists, machines, words (printed by gen_stk39.py). -/
namespace Go.Proofs.Ytgkdphnhfjjepaa
open Go.RowKit Go.Waf
set_option maxRecDepth 100000
set_option linter.unusedVariables false
set_option linter.unusedSimpArgs false

theorem conv_box (W : World) (v : Value) (xs : List Int) (h : Rd W 1 v xs.length (byt xs)) : (convert 29 9 v).run Try.prog W = .ok (.string (strOfNums xs)) W :=
  conv_rd Try.underlying29 Try.underlying5 Try.underlying9 h
set_option maxHeartbeats 800000 in
theorem hresult_any (w : World) (v1 v2 : Value) (xs : List Int) (f t : Int) (h1 : Rd w 1 v1 xs.length (byt xs)) (h2 : Rd w 1 v2 xs.length (byt xs)) :
    Calls Try.prog 30 #[.agg #[v1, .int .i64 f, .int .i64 t], .agg #[v2, .int .i64 f, .int .i64 t]] w fun e w' => e = .returned (.bool true) ∧ Below w.heap.size w w' := by
  have hb : ∀ O1 O2 : Obj, Below w.heap.size w ((w.alloc O1).alloc O2) := fun O1 O2 => ((Below.refl _ _).alloc (Nat.le_refl _) _).alloc (by simp) _
  have k1 := fun (O1 O2 : Obj) => conv_box _ v1 xs (h1.below (hb O1 O2) (Nat.le_refl _))
  have k2 := fun (O1 O2 : Obj) => conv_box _ v2 xs (h2.below (hb O1 O2) (Nat.le_refl _))
  have HB := Lib.hid hb
  obtain ⟨a1, c1, rfl, _, _, _⟩ := rd_shape h1
  obtain ⟨a2, c2, rfl, _, _, _⟩ := rd_shape h2
  clear h1 h2 hb
  go_enter Try.func30, Try.ntmps30
  go_wp2_with fail
  go_ret
  exact ⟨rfl, HB.out _ _⟩

theorem late5 {w w1 : World} {p : Addr} {v : Value} (h : w.cell? p = some v) (hb : Below w.heap.size w w1) : w1.cell? p = some v := (hb.cell (World.block_lt_of_cell? w p h)).trans h
theorem below_of_drewN {w : World} {n : Nat} : Below w.heap.size w (w.drewN n) := ⟨rfl, rfl, rfl, Nat.le_refl _, fun _ _ => rfl⟩
theorem below_pass {w w1 w2 : World} (h : Below w.heap.size w w1) (h2 : Below w1.heap.size w1 w2) : Below w.heap.size w w2 := h.trans (h2.mono h.size)
set_option maxHeartbeats 1600000 in
theorem int32s_any (w : World) (v1 v2 : Value) (n : Nat) (xs : List Int) (h1 : Rd w 1 v1 n (i32s xs)) (h2 : Rd w 1 v2 n (i32s xs)) (hn : n ≤ 1000000) :
    Calls Try.prog 22 #[v1, v2] w fun e w' => e = .returned (.bool true) ∧ Below w.heap.size w w' := by
  obtain ⟨hl1, a1, c1, rfl, p1, p2, _, p4⟩ := h1
  obtain ⟨hl2, a2, c2, rfl, q1, q2, _, q4⟩ := h2
  have hxl : xs.length = n := by simpa [i32s] using hl1
  have HXL := Lib.hid hxl
  have P4 := Lib.hid p4
  have Q4 := Lib.hid q4
  unfold maxLen at p2 q2
  clear hl1 hl2 p4 q4 hxl
  go_enter Try.func22, Try.ntmps22
  go_wp2_with fail
  go_loopw [5] (fun i wr => ∃ k m : Nat, k ≤ n ∧ i = .int .i64 k ∧ wr = w.drewN m) (fun i _ => n - (intOf i).toNat)
  case atStart => exact ⟨0, 0, by omega, rfl, rfl⟩
  case round =>
    obtain ⟨k, m, hk, rfl, hwr⟩ := hrel
    by_cases hlt : k < n
    · obtain ⟨b1, o1, rfl, hc1⟩ := P4.out (by omega)
      obtain ⟨b2, o2, rfl, hc2⟩ := Q4.out (by omega)
      have d1 : wr.cell? ⟨b1, o1 + k, none⟩ = some (.int .i32 (xs.getD k 0)) := by rw [hwr]; exact hc1 k _ (i32s_get xs k (by have := HXL.out; omega))
      have d2 : wr.cell? ⟨b2, o2 + k, none⟩ = some (.int .i32 (xs.getD k 0)) := by rw [hwr]; exact hc2 k _ (i32s_get xs k (by have := HXL.out; omega))
      have HWR := Lib.hid hwr
      obtain ⟨x, hx⟩ : ∃ x, x = xs.getD k 0 := ⟨_, rfl⟩
      rw [← hx] at d1 d2
      have k0 : (0 : Int) ≤ (k : Int) := by omega
      have k1 : (k : Int) < (n : Int) := by omega
      have HS := Lib.hid (show (fun W => W.cell? ⟨b1, o1 + k, none⟩ = some (.int .i32 x) ∧ W.cell? ⟨b2, o2 + k, none⟩ = some (.int .i32 x)) wr.drew from ⟨d1, d2⟩)
      clear hc1 hc2 hwr hx
      go_wp2_with fail
      refine wp_region_till 8 (fun W => W.cell? ⟨b1, o1 + k, none⟩ = some (.int .i32 x) ∧ W.cell? ⟨b2, o2 + k, none⟩ = some (.int .i32 x)) (by as_aux_lemma => kernel_rfl) ?_
      (refine wpAnyT_take (i := 0) (oi := ?_) (v := ?_) ?_ (by as_aux_lemma => kernel_rfl) (by as_aux_lemma => kernel_rfl) (by as_aux_lemma => kernel_rfl) (by as_aux_lemma => kernel_rfl) ?_ (Or.inl ⟨?_, ?_⟩) HS.out ?_; rotate_left 2; (focus (simp only [List.getElem?_toArray, List.getElem?_cons_succ, List.getElem?_cons_zero] <;> rfl)); (focus exact (fun _ _ _ h => h)); (focus rfl); (focus (intro w hSw; (try dsimp only at hSw); go_simp; try (with_reducible rfl))))
      (try simp only [Act.put, List.setIfInBounds_toArray, List.set_cons_zero, List.set_cons_succ])
      (refine wpAnyT_take (i := 1) (oi := ?_) (v := ?_) ?_ (by as_aux_lemma => kernel_rfl) (by as_aux_lemma => kernel_rfl) (by as_aux_lemma => kernel_rfl) (by as_aux_lemma => kernel_rfl) ?_ (Or.inl ⟨?_, ?_⟩) HS.out ?_; rotate_left 2; (focus (simp only [List.getElem?_toArray, List.getElem?_cons_succ, List.getElem?_cons_zero] <;> rfl)); (focus exact (fun _ _ _ h => h)); (focus rfl); (focus (intro w hSw; (try dsimp only at hSw); go_simp; try (with_reducible rfl))))
      (try simp only [Act.put, List.setIfInBounds_toArray, List.set_cons_zero, List.set_cons_succ])
      (refine wpAnyT_take (i := 2) (oi := ?_) (v := ?_) ?_ (by as_aux_lemma => kernel_rfl) (by as_aux_lemma => kernel_rfl) (by as_aux_lemma => kernel_rfl) (by as_aux_lemma => kernel_rfl) ?_ (Or.inl ⟨?_, ?_⟩) HS.out ?_; rotate_left 2; (focus (simp only [List.getElem?_toArray, List.getElem?_cons_succ, List.getElem?_cons_zero] <;> rfl)); (focus exact (fun _ _ _ h => h)); (focus rfl); (focus (intro w hSw; (try dsimp only at hSw); go_simp; try (with_reducible rfl))))
      (try simp only [Act.put, List.setIfInBounds_toArray, List.set_cons_zero, List.set_cons_succ])
      (refine wpAnyT_take (i := 3) (oi := ?_) (v := ?_) ?_ (by as_aux_lemma => kernel_rfl) (by as_aux_lemma => kernel_rfl) (by as_aux_lemma => kernel_rfl) (by as_aux_lemma => kernel_rfl) ?_ (Or.inl ⟨?_, ?_⟩) HS.out ?_; rotate_left 2; (focus (simp only [List.getElem?_toArray, List.getElem?_cons_succ, List.getElem?_cons_zero] <;> rfl)); (focus exact (fun _ _ _ h => h)); (focus rfl); (focus (intro w hSw; (try dsimp only at hSw); go_simp; try (with_reducible rfl))))
      (try simp only [Act.put, List.setIfInBounds_toArray, List.set_cons_zero, List.set_cons_succ])
      (refine wpAnyT_take (i := 4) (oi := ?_) (v := ?_) ?_ (by as_aux_lemma => kernel_rfl) (by as_aux_lemma => kernel_rfl) (by as_aux_lemma => kernel_rfl) (by as_aux_lemma => kernel_rfl) ?_ (Or.inl ⟨?_, ?_⟩) HS.out ?_; rotate_left 2; (focus (simp only [List.getElem?_toArray, List.getElem?_cons_succ, List.getElem?_cons_zero] <;> rfl)); (focus exact (fun _ _ _ h => h)); (focus rfl); (focus (intro w hSw; (try dsimp only at hSw); go_simp; try (with_reducible rfl))))
      (try simp only [Act.put, List.setIfInBounds_toArray, List.set_cons_zero, List.set_cons_succ])
      (refine wpAnyT_take (i := 5) (oi := ?_) (v := ?_) ?_ (by as_aux_lemma => kernel_rfl) (by as_aux_lemma => kernel_rfl) (by as_aux_lemma => kernel_rfl) (by as_aux_lemma => kernel_rfl) ?_ (Or.inl ⟨?_, ?_⟩) HS.out ?_; rotate_left 2; (focus (simp only [List.getElem?_toArray, List.getElem?_cons_succ, List.getElem?_cons_zero] <;> rfl)); (focus exact (fun _ _ _ h => h)); (focus rfl); (focus (intro w hSw; (try dsimp only at hSw); go_simp; try (with_reducible rfl))))
      (try simp only [Act.put, List.setIfInBounds_toArray, List.set_cons_zero, List.set_cons_succ])
      (refine wpAnyT_take (i := 6) (oi := ?_) (v := ?_) ?_ (by as_aux_lemma => kernel_rfl) (by as_aux_lemma => kernel_rfl) (by as_aux_lemma => kernel_rfl) (by as_aux_lemma => kernel_rfl) ?_ (Or.inl ⟨?_, ?_⟩) HS.out ?_; rotate_left 2; (focus (simp only [List.getElem?_toArray, List.getElem?_cons_succ, List.getElem?_cons_zero] <;> rfl)); (focus exact (fun _ _ _ h => h)); (focus rfl); (focus (intro w hSw; (try dsimp only at hSw); go_simp; try (with_reducible rfl))))
      (try simp only [Act.put, List.setIfInBounds_toArray, List.set_cons_zero, List.set_cons_succ])
      (refine wpAnyT_take (i := 7) (oi := ?_) (v := ?_) ?_ (by as_aux_lemma => kernel_rfl) (by as_aux_lemma => kernel_rfl) (by as_aux_lemma => kernel_rfl) (by as_aux_lemma => kernel_rfl) ?_ (Or.inl ⟨?_, ?_⟩) HS.out ?_; rotate_left 2; (focus (simp only [List.getElem?_toArray, List.getElem?_cons_succ, List.getElem?_cons_zero] <;> rfl)); (focus exact (fun _ _ _ h => h)); (focus rfl); (focus (intro w hSw; (try dsimp only at hSw); go_simp; try (with_reducible rfl))))
      (try simp only [Act.put, List.setIfInBounds_toArray, List.set_cons_zero, List.set_cons_succ])
      (refine wpAnyT_late (i := 8) (oi := ?_) ?_ (by as_aux_lemma => kernel_rfl) (by as_aux_lemma => kernel_rfl) (fun K hK => ?_); rotate_left; (focus (simp only [List.getElem?_toArray, List.getElem?_cons_succ, List.getElem?_cons_zero] <;> rfl)))
      go_simp
      refine hK.out _ _ ?_
      clear hK K
      refine wpAnyT_done (by as_aux_lemma => kernel_rfl) ?_ _
      go_wp2_with fail
      go_roundw
      case rel => exact ⟨k + 1, m + 1, by omega, by go_num, by rw [HWR.out]; rfl⟩
      case measure => simp [intOf]; omega
    · obtain rfl : k = n := by omega
      have HB := Lib.hid (show Below w.heap.size w wr from by rw [hwr]; exact below_of_drewN)
      clear hwr
      go_wp2_with fail
      go_ret
      exact ⟨rfl, HB.out⟩
section
variable {w : World} {B1 q1 B2 q2 : Nat} {F1 F2 : Nat → Prop} {cv1 mv1 iv1 sv1 kv1 ov1 cv2 mv2 iv2 sv2 kv2 ov2 : Value} {s : SSt}
set_option maxHeartbeats 6400000 in
theorem same_any (hm : SM true w B1 q1 F1 cv1 mv1 iv1 sv1 kv1 ov1 s) (hr : SM false w B2 q2 F2 cv2 mv2 iv2 sv2 kv2 ov2 s) (hol : s.out.length ≤ 2000000) :
    Calls Try.prog 28 #[.pointer (some ⟨q1, 0, none⟩), .pointer (some ⟨q2, 0, none⟩)] w fun e w' => e = .returned (.bool true) ∧ Below w.heap.size w w' := by
  have HM := Lib.hid hm
  have HR := Lib.hid hr
  have HSL := Lib.hid (show s.st.length ≤ 1000000 from by have := hm.fit.sl; omega)
  clear hm hr
  go_enter Try.func28, Try.ntmps28
  go_wp2_with fail
  refine (pframe_any HM.out).mono ?_
  rintro e w1 ⟨rfl, n, hw1⟩
  have hb1 : Below w.heap.size w w1.drew := by rw [hw1]; exact below_of_drewN.drew
  have HM1 := Lib.hid (HM.out.below hb1)
  have HR1 := Lib.hid (HR.out.below hb1)
  have HB1 := Lib.hid hb1
  have HS := Lib.hid (show (fun W => W.cell? ⟨q2, 3, none⟩ = some (.int .i64 s.fp) ∧ W.cell? ⟨q2, 4, none⟩ = some (.int .i64 s.top) ∧ W.cell? ⟨q2, 5, none⟩ = some (.int .i64 s.pc) ∧ W.cell? ⟨q2, 2, none⟩ = some sv2) w1.drew from ⟨HR1.out.r3, HR1.out.r4, HR1.out.r5, HR1.out.r2⟩)
  clear hw1 hb1
  go_wp2_with fail
  obtain ⟨W1, hW1⟩ : ∃ W1 : World, W1 = w1.drew := ⟨_, rfl⟩
  refine wp_region_till 39 (fun W => W.cell? ⟨q2, 3, none⟩ = some (.int .i64 s.fp) ∧ W.cell? ⟨q2, 4, none⟩ = some (.int .i64 s.top) ∧ W.cell? ⟨q2, 5, none⟩ = some (.int .i64 s.pc) ∧ W.cell? ⟨q2, 2, none⟩ = some sv2) (by as_aux_lemma => kernel_rfl) ?_
  rw [← hW1] at HM1 HR1 HB1 HS ⊢
  clear hW1
  (refine wpAnyT_take (i := 0) (oi := ?_) (v := ?_) ?_ (by as_aux_lemma => kernel_rfl) (by as_aux_lemma => kernel_rfl) (by as_aux_lemma => kernel_rfl) (by as_aux_lemma => kernel_rfl) ?_ (Or.inl ⟨?_, ?_⟩) HS.out ?_; rotate_left 2; (focus (simp only [List.getElem?_toArray, List.getElem?_cons_succ, List.getElem?_cons_zero] <;> rfl)); (focus exact (fun _ _ _ h => h)); (focus rfl); (focus (intro w hSw; (try dsimp only at hSw); go_simp; try (with_reducible rfl))))
  (try simp only [Act.put, List.setIfInBounds_toArray, List.set_cons_zero, List.set_cons_succ])
  (refine wpAnyT_take (i := 1) (oi := ?_) (v := ?_) ?_ (by as_aux_lemma => kernel_rfl) (by as_aux_lemma => kernel_rfl) (by as_aux_lemma => kernel_rfl) (by as_aux_lemma => kernel_rfl) ?_ (Or.inl ⟨?_, ?_⟩) HS.out ?_; rotate_left 2; (focus (simp only [List.getElem?_toArray, List.getElem?_cons_succ, List.getElem?_cons_zero] <;> rfl)); (focus exact (fun _ _ _ h => h)); (focus rfl); (focus (intro w hSw; (try dsimp only at hSw); go_simp; try (with_reducible rfl))))
  (try simp only [Act.put, List.setIfInBounds_toArray, List.set_cons_zero, List.set_cons_succ])
  (refine wpAnyT_take (i := 2) (oi := ?_) (v := ?_) ?_ (by as_aux_lemma => kernel_rfl) (by as_aux_lemma => kernel_rfl) (by as_aux_lemma => kernel_rfl) (by as_aux_lemma => kernel_rfl) ?_ (Or.inl ⟨?_, ?_⟩) HS.out ?_; rotate_left 2; (focus (simp only [List.getElem?_toArray, List.getElem?_cons_succ, List.getElem?_cons_zero] <;> rfl)); (focus exact (fun _ _ _ h => h)); (focus rfl); (focus (intro w hSw; (try dsimp only at hSw); go_simp; try (with_reducible rfl))))
  (try simp only [Act.put, List.setIfInBounds_toArray, List.set_cons_zero, List.set_cons_succ])
  (refine wpAnyT_take (i := 3) (oi := ?_) (v := ?_) ?_ (by as_aux_lemma => kernel_rfl) (by as_aux_lemma => kernel_rfl) (by as_aux_lemma => kernel_rfl) (by as_aux_lemma => kernel_rfl) ?_ (Or.inl ⟨?_, ?_⟩) HS.out ?_; rotate_left 2; (focus (simp only [List.getElem?_toArray, List.getElem?_cons_succ, List.getElem?_cons_zero] <;> rfl)); (focus exact (fun _ _ _ h => h)); (focus rfl); (focus (intro w hSw; (try dsimp only at hSw); go_simp; try (with_reducible rfl))))
  (try simp only [Act.put, List.setIfInBounds_toArray, List.set_cons_zero, List.set_cons_succ])
  (refine wpAnyT_take (i := 4) (oi := ?_) (v := ?_) ?_ (by as_aux_lemma => kernel_rfl) (by as_aux_lemma => kernel_rfl) (by as_aux_lemma => kernel_rfl) (by as_aux_lemma => kernel_rfl) ?_ (Or.inl ⟨?_, ?_⟩) HS.out ?_; rotate_left 2; (focus (simp only [List.getElem?_toArray, List.getElem?_cons_succ, List.getElem?_cons_zero] <;> rfl)); (focus exact (fun _ _ _ h => h)); (focus rfl); (focus (intro w hSw; (try dsimp only at hSw); go_simp; try (with_reducible rfl))))
  (try simp only [Act.put, List.setIfInBounds_toArray, List.set_cons_zero, List.set_cons_succ])
  (refine wpAnyT_take (i := 5) (oi := ?_) (v := ?_) ?_ (by as_aux_lemma => kernel_rfl) (by as_aux_lemma => kernel_rfl) (by as_aux_lemma => kernel_rfl) (by as_aux_lemma => kernel_rfl) ?_ (Or.inl ⟨?_, ?_⟩) HS.out ?_; rotate_left 2; (focus (simp only [List.getElem?_toArray, List.getElem?_cons_succ, List.getElem?_cons_zero] <;> rfl)); (focus exact (fun _ _ _ h => h)); (focus rfl); (focus (intro w hSw; (try dsimp only at hSw); go_simp; try (with_reducible rfl))))
  (try simp only [Act.put, List.setIfInBounds_toArray, List.set_cons_zero, List.set_cons_succ])
  (refine wpAnyT_take (i := 6) (oi := ?_) (v := ?_) ?_ (by as_aux_lemma => kernel_rfl) (by as_aux_lemma => kernel_rfl) (by as_aux_lemma => kernel_rfl) (by as_aux_lemma => kernel_rfl) ?_ (Or.inl ⟨?_, ?_⟩) HS.out ?_; rotate_left 2; (focus (simp only [List.getElem?_toArray, List.getElem?_cons_succ, List.getElem?_cons_zero] <;> rfl)); (focus exact (fun _ _ _ h => h)); (focus rfl); (focus (intro w hSw; (try dsimp only at hSw); go_simp; try (with_reducible rfl))))
  (try simp only [Act.put, List.setIfInBounds_toArray, List.set_cons_zero, List.set_cons_succ])
  (refine wpAnyT_take (i := 7) (oi := ?_) (v := ?_) ?_ (by as_aux_lemma => kernel_rfl) (by as_aux_lemma => kernel_rfl) (by as_aux_lemma => kernel_rfl) (by as_aux_lemma => kernel_rfl) ?_ (Or.inl ⟨?_, ?_⟩) HS.out ?_; rotate_left 2; (focus (simp only [List.getElem?_toArray, List.getElem?_cons_succ, List.getElem?_cons_zero] <;> rfl)); (focus exact (fun _ _ _ h => h)); (focus rfl); (focus (intro w hSw; (try dsimp only at hSw); go_simp; try (with_reducible rfl))))
  (try simp only [Act.put, List.setIfInBounds_toArray, List.set_cons_zero, List.set_cons_succ])
  (refine wpAnyT_take (i := 8) (oi := ?_) (v := ?_) ?_ (by as_aux_lemma => kernel_rfl) (by as_aux_lemma => kernel_rfl) (by as_aux_lemma => kernel_rfl) (by as_aux_lemma => kernel_rfl) ?_ (Or.inl ⟨?_, ?_⟩) HS.out ?_; rotate_left 2; (focus (simp only [List.getElem?_toArray, List.getElem?_cons_succ, List.getElem?_cons_zero] <;> rfl)); (focus exact (fun _ _ _ h => h)); (focus rfl); (focus (intro w hSw; (try dsimp only at hSw); go_simp; try (with_reducible rfl))))
  (try simp only [Act.put, List.setIfInBounds_toArray, List.set_cons_zero, List.set_cons_succ])
  (refine wpAnyT_take (i := 9) (oi := ?_) (v := ?_) ?_ (by as_aux_lemma => kernel_rfl) (by as_aux_lemma => kernel_rfl) (by as_aux_lemma => kernel_rfl) (by as_aux_lemma => kernel_rfl) ?_ (Or.inl ⟨?_, ?_⟩) HS.out ?_; rotate_left 2; (focus (simp only [List.getElem?_toArray, List.getElem?_cons_succ, List.getElem?_cons_zero] <;> rfl)); (focus exact (fun _ _ _ h => h)); (focus rfl); (focus (intro w hSw; (try dsimp only at hSw); go_simp; try (with_reducible rfl))))
  (try simp only [Act.put, List.setIfInBounds_toArray, List.set_cons_zero, List.set_cons_succ])
  (refine wpAnyT_take (i := 10) (oi := ?_) (v := ?_) ?_ (by as_aux_lemma => kernel_rfl) (by as_aux_lemma => kernel_rfl) (by as_aux_lemma => kernel_rfl) (by as_aux_lemma => kernel_rfl) ?_ (Or.inl ⟨?_, ?_⟩) HS.out ?_; rotate_left 2; (focus (simp only [List.getElem?_toArray, List.getElem?_cons_succ, List.getElem?_cons_zero] <;> rfl)); (focus exact (fun _ _ _ h => h)); (focus rfl); (focus (intro w hSw; (try dsimp only at hSw); go_simp; try (with_reducible rfl))))
  (try simp only [Act.put, List.setIfInBounds_toArray, List.set_cons_zero, List.set_cons_succ])
  (refine wpAnyT_take (i := 11) (oi := ?_) (v := ?_) ?_ (by as_aux_lemma => kernel_rfl) (by as_aux_lemma => kernel_rfl) (by as_aux_lemma => kernel_rfl) (by as_aux_lemma => kernel_rfl) ?_ (Or.inl ⟨?_, ?_⟩) HS.out ?_; rotate_left 2; (focus (simp only [List.getElem?_toArray, List.getElem?_cons_succ, List.getElem?_cons_zero] <;> rfl)); (focus exact (fun _ _ _ h => h)); (focus rfl); (focus (intro w hSw; (try dsimp only at hSw); go_simp; try (with_reducible rfl))))
  (try simp only [Act.put, List.setIfInBounds_toArray, List.set_cons_zero, List.set_cons_succ])
  (refine wpAnyT_take (i := 12) (oi := ?_) (v := ?_) ?_ (by as_aux_lemma => kernel_rfl) (by as_aux_lemma => kernel_rfl) (by as_aux_lemma => kernel_rfl) (by as_aux_lemma => kernel_rfl) ?_ (Or.inl ⟨?_, ?_⟩) HS.out ?_; rotate_left 2; (focus (simp only [List.getElem?_toArray, List.getElem?_cons_succ, List.getElem?_cons_zero] <;> rfl)); (focus exact (fun _ _ _ h => h)); (focus rfl); (focus (intro w hSw; (try dsimp only at hSw); go_simp; try (with_reducible rfl))))
  (try simp only [Act.put, List.setIfInBounds_toArray, List.set_cons_zero, List.set_cons_succ])
  (refine wpAnyT_take (i := 13) (oi := ?_) (v := ?_) ?_ (by as_aux_lemma => kernel_rfl) (by as_aux_lemma => kernel_rfl) (by as_aux_lemma => kernel_rfl) (by as_aux_lemma => kernel_rfl) ?_ (Or.inl ⟨?_, ?_⟩) HS.out ?_; rotate_left 2; (focus (simp only [List.getElem?_toArray, List.getElem?_cons_succ, List.getElem?_cons_zero] <;> rfl)); (focus exact (fun _ _ _ h => h)); (focus rfl); (focus (intro w hSw; (try dsimp only at hSw); go_simp; try (with_reducible rfl))))
  (try simp only [Act.put, List.setIfInBounds_toArray, List.set_cons_zero, List.set_cons_succ])
  (refine wpAnyT_take (i := 14) (oi := ?_) (v := ?_) ?_ (by as_aux_lemma => kernel_rfl) (by as_aux_lemma => kernel_rfl) (by as_aux_lemma => kernel_rfl) (by as_aux_lemma => kernel_rfl) ?_ (Or.inl ⟨?_, ?_⟩) HS.out ?_; rotate_left 2; (focus (simp only [List.getElem?_toArray, List.getElem?_cons_succ, List.getElem?_cons_zero] <;> rfl)); (focus exact (fun _ _ _ h => h)); (focus rfl); (focus (intro w hSw; (try dsimp only at hSw); go_simp; try (with_reducible rfl))))
  (try simp only [Act.put, List.setIfInBounds_toArray, List.set_cons_zero, List.set_cons_succ])
  (refine wpAnyT_take (i := 15) (oi := ?_) (v := ?_) ?_ (by as_aux_lemma => kernel_rfl) (by as_aux_lemma => kernel_rfl) (by as_aux_lemma => kernel_rfl) (by as_aux_lemma => kernel_rfl) ?_ (Or.inl ⟨?_, ?_⟩) HS.out ?_; rotate_left 2; (focus (simp only [List.getElem?_toArray, List.getElem?_cons_succ, List.getElem?_cons_zero] <;> rfl)); (focus exact (fun _ _ _ h => h)); (focus rfl); (focus (intro w hSw; (try dsimp only at hSw); go_simp; try (with_reducible rfl))))
  (try simp only [Act.put, List.setIfInBounds_toArray, List.set_cons_zero, List.set_cons_succ])
  (refine wpAnyT_take (i := 17) (oi := ?_) (v := ?_) ?_ (by as_aux_lemma => kernel_rfl) (by as_aux_lemma => kernel_rfl) (by as_aux_lemma => kernel_rfl) (by as_aux_lemma => kernel_rfl) ?_ (Or.inl ⟨?_, ?_⟩) HS.out ?_; rotate_left 2; (focus (simp only [List.getElem?_toArray, List.getElem?_cons_succ, List.getElem?_cons_zero] <;> rfl)); (focus exact (fun _ _ _ h => h)); (focus rfl); (focus (intro w hSw; (try dsimp only at hSw); go_simp; try (with_reducible rfl))))
  (try simp only [Act.put, List.setIfInBounds_toArray, List.set_cons_zero, List.set_cons_succ])
  (refine wpAnyT_take (i := 18) (oi := ?_) (v := ?_) ?_ (by as_aux_lemma => kernel_rfl) (by as_aux_lemma => kernel_rfl) (by as_aux_lemma => kernel_rfl) (by as_aux_lemma => kernel_rfl) ?_ (Or.inl ⟨?_, ?_⟩) HS.out ?_; rotate_left 2; (focus (simp only [List.getElem?_toArray, List.getElem?_cons_succ, List.getElem?_cons_zero] <;> rfl)); (focus exact (fun _ _ _ h => h)); (focus rfl); (focus (intro w hSw; (try dsimp only at hSw); go_simp; try (with_reducible rfl))))
  (try simp only [Act.put, List.setIfInBounds_toArray, List.set_cons_zero, List.set_cons_succ])
  (refine wpAnyT_take (i := 19) (oi := ?_) (v := ?_) ?_ (by as_aux_lemma => kernel_rfl) (by as_aux_lemma => kernel_rfl) (by as_aux_lemma => kernel_rfl) (by as_aux_lemma => kernel_rfl) ?_ (Or.inl ⟨?_, ?_⟩) HS.out ?_; rotate_left 2; (focus (simp only [List.getElem?_toArray, List.getElem?_cons_succ, List.getElem?_cons_zero] <;> rfl)); (focus exact (fun _ _ _ h => h)); (focus rfl); (focus (intro w hSw; (try dsimp only at hSw); go_simp; try (with_reducible rfl))))
  (try simp only [Act.put, List.setIfInBounds_toArray, List.set_cons_zero, List.set_cons_succ])
  (refine wpAnyT_take (i := 20) (oi := ?_) (v := ?_) ?_ (by as_aux_lemma => kernel_rfl) (by as_aux_lemma => kernel_rfl) (by as_aux_lemma => kernel_rfl) (by as_aux_lemma => kernel_rfl) ?_ (Or.inl ⟨?_, ?_⟩) HS.out ?_; rotate_left 2; (focus (simp only [List.getElem?_toArray, List.getElem?_cons_succ, List.getElem?_cons_zero] <;> rfl)); (focus exact (fun _ _ _ h => h)); (focus rfl); (focus (intro w hSw; (try dsimp only at hSw); go_simp; try (with_reducible rfl))))
  (try simp only [Act.put, List.setIfInBounds_toArray, List.set_cons_zero, List.set_cons_succ])
  (refine wpAnyT_one (i := 16) (oi := ?_) ?_ (by as_aux_lemma => kernel_rfl) (fun K hK => ?_); rotate_left; (focus (simp only [List.getElem?_toArray, List.getElem?_cons_succ, List.getElem?_cons_zero] <;> rfl)))
  go_simp
  go_at_call 21
  with_reducible refine (ppc_any HM1.out).mono ?_
  rintro e w2 ⟨rfl, rfl⟩
  try go_wp2_with fail
  refine hK.out _ _ HS.out ?_
  clear hK K
  (try simp only [Act.put, List.setIfInBounds_toArray, List.set_cons_zero, List.set_cons_succ])
  (refine wpAnyT_take (i := 21) (oi := ?_) (v := ?_) ?_ (by as_aux_lemma => kernel_rfl) (by as_aux_lemma => kernel_rfl) (by as_aux_lemma => kernel_rfl) (by as_aux_lemma => kernel_rfl) ?_ (Or.inl ⟨?_, ?_⟩) HS.out ?_; rotate_left 2; (focus (simp only [List.getElem?_toArray, List.getElem?_cons_succ, List.getElem?_cons_zero] <;> rfl)); (focus exact (fun _ _ _ h => h)); (focus rfl); (focus (intro w hSw; (try dsimp only at hSw); go_simp; try (with_reducible rfl))))
  (try simp only [Act.put, List.setIfInBounds_toArray, List.set_cons_zero, List.set_cons_succ])
  (refine wpAnyT_take (i := 22) (oi := ?_) (v := ?_) ?_ (by as_aux_lemma => kernel_rfl) (by as_aux_lemma => kernel_rfl) (by as_aux_lemma => kernel_rfl) (by as_aux_lemma => kernel_rfl) ?_ (Or.inl ⟨?_, ?_⟩) HS.out ?_; rotate_left 2; (focus (simp only [List.getElem?_toArray, List.getElem?_cons_succ, List.getElem?_cons_zero] <;> rfl)); (focus exact (fun _ _ _ h => h)); (focus rfl); (focus (intro w hSw; (try dsimp only at hSw); go_simp; try (with_reducible rfl))))
  (try simp only [Act.put, List.setIfInBounds_toArray, List.set_cons_zero, List.set_cons_succ])
  (refine wpAnyT_take (i := 23) (oi := ?_) (v := ?_) ?_ (by as_aux_lemma => kernel_rfl) (by as_aux_lemma => kernel_rfl) (by as_aux_lemma => kernel_rfl) (by as_aux_lemma => kernel_rfl) ?_ (Or.inl ⟨?_, ?_⟩) HS.out ?_; rotate_left 2; (focus (simp only [List.getElem?_toArray, List.getElem?_cons_succ, List.getElem?_cons_zero] <;> rfl)); (focus exact (fun _ _ _ h => h)); (focus rfl); (focus (intro w hSw; (try dsimp only at hSw); go_simp; try (with_reducible rfl))))
  (try simp only [Act.put, List.setIfInBounds_toArray, List.set_cons_zero, List.set_cons_succ])
  (refine wpAnyT_take (i := 24) (oi := ?_) (v := ?_) ?_ (by as_aux_lemma => kernel_rfl) (by as_aux_lemma => kernel_rfl) (by as_aux_lemma => kernel_rfl) (by as_aux_lemma => kernel_rfl) ?_ (Or.inl ⟨?_, ?_⟩) HS.out ?_; rotate_left 2; (focus (simp only [List.getElem?_toArray, List.getElem?_cons_succ, List.getElem?_cons_zero] <;> rfl)); (focus exact (fun _ _ _ h => h)); (focus rfl); (focus (intro w hSw; (try dsimp only at hSw); go_simp; try (with_reducible rfl))))
  (try simp only [Act.put, List.setIfInBounds_toArray, List.set_cons_zero, List.set_cons_succ])
  (refine wpAnyT_take (i := 26) (oi := ?_) (v := ?_) ?_ (by as_aux_lemma => kernel_rfl) (by as_aux_lemma => kernel_rfl) (by as_aux_lemma => kernel_rfl) (by as_aux_lemma => kernel_rfl) ?_ (Or.inl ⟨?_, ?_⟩) HS.out ?_; rotate_left 2; (focus (simp only [List.getElem?_toArray, List.getElem?_cons_succ, List.getElem?_cons_zero] <;> rfl)); (focus exact (fun _ _ _ h => h)); (focus rfl); (focus (intro w hSw; (try dsimp only at hSw); go_simp; try (with_reducible rfl))))
  (try simp only [Act.put, List.setIfInBounds_toArray, List.set_cons_zero, List.set_cons_succ])
  (refine wpAnyT_take (i := 27) (oi := ?_) (v := ?_) ?_ (by as_aux_lemma => kernel_rfl) (by as_aux_lemma => kernel_rfl) (by as_aux_lemma => kernel_rfl) (by as_aux_lemma => kernel_rfl) ?_ (Or.inl ⟨?_, ?_⟩) HS.out ?_; rotate_left 2; (focus (simp only [List.getElem?_toArray, List.getElem?_cons_succ, List.getElem?_cons_zero] <;> rfl)); (focus exact (fun _ _ _ h => h)); (focus rfl); (focus (intro w hSw; (try dsimp only at hSw); go_simp; try (with_reducible rfl))))
  (try simp only [Act.put, List.setIfInBounds_toArray, List.set_cons_zero, List.set_cons_succ])
  (refine wpAnyT_take (i := 28) (oi := ?_) (v := ?_) ?_ (by as_aux_lemma => kernel_rfl) (by as_aux_lemma => kernel_rfl) (by as_aux_lemma => kernel_rfl) (by as_aux_lemma => kernel_rfl) ?_ (Or.inl ⟨?_, ?_⟩) HS.out ?_; rotate_left 2; (focus (simp only [List.getElem?_toArray, List.getElem?_cons_succ, List.getElem?_cons_zero] <;> rfl)); (focus exact (fun _ _ _ h => h)); (focus rfl); (focus (intro w hSw; (try dsimp only at hSw); go_simp; try (with_reducible rfl))))
  (try simp only [Act.put, List.setIfInBounds_toArray, List.set_cons_zero, List.set_cons_succ])
  (refine wpAnyT_take (i := 29) (oi := ?_) (v := ?_) ?_ (by as_aux_lemma => kernel_rfl) (by as_aux_lemma => kernel_rfl) (by as_aux_lemma => kernel_rfl) (by as_aux_lemma => kernel_rfl) ?_ (Or.inl ⟨?_, ?_⟩) HS.out ?_; rotate_left 2; (focus (simp only [List.getElem?_toArray, List.getElem?_cons_succ, List.getElem?_cons_zero] <;> rfl)); (focus exact (fun _ _ _ h => h)); (focus rfl); (focus (intro w hSw; (try dsimp only at hSw); go_simp; try (with_reducible rfl))))
  (try simp only [Act.put, List.setIfInBounds_toArray, List.set_cons_zero, List.set_cons_succ])
  (refine wpAnyT_one (i := 25) (oi := ?_) ?_ (by as_aux_lemma => kernel_rfl) (fun K hK => ?_); rotate_left; (focus (simp only [List.getElem?_toArray, List.getElem?_cons_succ, List.getElem?_cons_zero] <;> rfl)))
  go_simp
  go_at_call 14
  with_reducible refine (pops_any HM1.out).mono ?_
  rintro e w3 ⟨v3, rfl, ho3, hb3⟩
  have rA := rd_of_owns ho3
  obtain ⟨a3, c3, rfl, _⟩ := owns_shape ho3
  have RA := Lib.hid rA
  have HM3 := Lib.hid (HM1.out.below hb3)
  have HR3 := Lib.hid (HR1.out.below hb3)
  have HS3 := Lib.hid (show (fun W => W.cell? ⟨q2, 3, none⟩ = some (.int .i64 s.fp) ∧ W.cell? ⟨q2, 4, none⟩ = some (.int .i64 s.top) ∧ W.cell? ⟨q2, 5, none⟩ = some (.int .i64 s.pc) ∧ W.cell? ⟨q2, 2, none⟩ = some sv2) w3 from ⟨late5 HS.out.1 hb3, late5 HS.out.2.1 hb3, late5 HS.out.2.2.1 hb3, late5 HS.out.2.2.2 hb3⟩)
  have HB3 := Lib.hid (HB1.out.trans (hb3.mono HB1.out.size))
  clear rA ho3 hb3
  try go_wp2_with fail
  refine hK.out _ _ HS3.out ?_
  clear hK K
  (try simp only [Act.put, List.setIfInBounds_toArray, List.set_cons_zero, List.set_cons_succ])
  (refine wpAnyT_one (i := 30) (oi := ?_) ?_ (by as_aux_lemma => kernel_rfl) (fun K hK => ?_); rotate_left; (focus (simp only [List.getElem?_toArray, List.getElem?_cons_succ, List.getElem?_cons_zero] <;> rfl)))
  go_simp
  go_at_call 22
  with_reducible refine (int32s_any _ _ _ _ _ RA.out HR3.out.ops.rd HSL.out).mono ?_
  rintro e w4 ⟨rfl, hb4⟩
  have HM4 := Lib.hid (HM3.out.below hb4)
  have HR4 := Lib.hid (HR3.out.below hb4)
  have HS4 := Lib.hid (show (fun W => W.cell? ⟨q2, 3, none⟩ = some (.int .i64 s.fp) ∧ W.cell? ⟨q2, 4, none⟩ = some (.int .i64 s.top) ∧ W.cell? ⟨q2, 5, none⟩ = some (.int .i64 s.pc) ∧ W.cell? ⟨q2, 2, none⟩ = some sv2) w4 from ⟨late5 HS3.out.1 hb4, late5 HS3.out.2.1 hb4, late5 HS3.out.2.2.1 hb4, late5 HS3.out.2.2.2 hb4⟩)
  have HB4 := Lib.hid (HB3.out.trans (hb4.mono HB3.out.size))
  clear hb4
  try go_wp2_with fail
  refine hK.out _ _ HS4.out ?_
  clear hK K
  (try simp only [Act.put, List.setIfInBounds_toArray, List.set_cons_zero, List.set_cons_succ])
  (refine wpAnyT_take (i := 31) (oi := ?_) (v := ?_) ?_ (by as_aux_lemma => kernel_rfl) (by as_aux_lemma => kernel_rfl) (by as_aux_lemma => kernel_rfl) (by as_aux_lemma => kernel_rfl) ?_ (Or.inl ⟨?_, ?_⟩) HS4.out ?_; rotate_left 2; (focus (simp only [List.getElem?_toArray, List.getElem?_cons_succ, List.getElem?_cons_zero] <;> rfl)); (focus exact (fun _ _ _ h => h)); (focus rfl); (focus (intro w hSw; (try dsimp only at hSw); go_simp; try (with_reducible rfl))))
  (try simp only [Act.put, List.setIfInBounds_toArray, List.set_cons_zero, List.set_cons_succ])
  (refine wpAnyT_take (i := 32) (oi := ?_) (v := ?_) ?_ (by as_aux_lemma => kernel_rfl) (by as_aux_lemma => kernel_rfl) (by as_aux_lemma => kernel_rfl) (by as_aux_lemma => kernel_rfl) ?_ (Or.inl ⟨?_, ?_⟩) HS4.out ?_; rotate_left 2; (focus (simp only [List.getElem?_toArray, List.getElem?_cons_succ, List.getElem?_cons_zero] <;> rfl)); (focus exact (fun _ _ _ h => h)); (focus rfl); (focus (intro w hSw; (try dsimp only at hSw); go_simp; try (with_reducible rfl))))
  (try simp only [Act.put, List.setIfInBounds_toArray, List.set_cons_zero, List.set_cons_succ])
  (refine wpAnyT_take (i := 33) (oi := ?_) (v := ?_) ?_ (by as_aux_lemma => kernel_rfl) (by as_aux_lemma => kernel_rfl) (by as_aux_lemma => kernel_rfl) (by as_aux_lemma => kernel_rfl) ?_ (Or.inl ⟨?_, ?_⟩) HS4.out ?_; rotate_left 2; (focus (simp only [List.getElem?_toArray, List.getElem?_cons_succ, List.getElem?_cons_zero] <;> rfl)); (focus exact (fun _ _ _ h => h)); (focus rfl); (focus (intro w hSw; (try dsimp only at hSw); go_simp; try (with_reducible rfl))))
  (try simp only [Act.put, List.setIfInBounds_toArray, List.set_cons_zero, List.set_cons_succ])
  (refine wpAnyT_take (i := 35) (oi := ?_) (v := ?_) ?_ (by as_aux_lemma => kernel_rfl) (by as_aux_lemma => kernel_rfl) (by as_aux_lemma => kernel_rfl) (by as_aux_lemma => kernel_rfl) ?_ (Or.inl ⟨?_, ?_⟩) HS4.out ?_; rotate_left 2; (focus (simp only [List.getElem?_toArray, List.getElem?_cons_succ, List.getElem?_cons_zero] <;> rfl)); (focus exact (fun _ _ _ h => h)); (focus rfl); (focus (intro w hSw; (try dsimp only at hSw); go_simp; try (with_reducible rfl))))
  (try simp only [Act.put, List.setIfInBounds_toArray, List.set_cons_zero, List.set_cons_succ])
  (refine wpAnyT_one (i := 34) (oi := ?_) ?_ (by as_aux_lemma => kernel_rfl) (fun K hK => ?_); rotate_left; (focus (simp only [List.getElem?_toArray, List.getElem?_cons_succ, List.getElem?_cons_zero] <;> rfl)))
  go_simp
  go_at_call 34
  with_reducible refine (presult_any HM4.out hol).mono ?_
  rintro e w5 ⟨v5, rfl, ho5, hb5⟩
  have rB := rd_of_owns ho5
  obtain ⟨a5, c5, rfl, _⟩ := owns_shape ho5
  have RB := Lib.hid rB
  have HR5 := Lib.hid (HR4.out.below hb5)
  have HS5 := Lib.hid (show (fun W => W.cell? ⟨q2, 3, none⟩ = some (.int .i64 s.fp) ∧ W.cell? ⟨q2, 4, none⟩ = some (.int .i64 s.top) ∧ W.cell? ⟨q2, 5, none⟩ = some (.int .i64 s.pc) ∧ W.cell? ⟨q2, 2, none⟩ = some sv2) w5 from ⟨late5 HS4.out.1 hb5, late5 HS4.out.2.1 hb5, late5 HS4.out.2.2.1 hb5, late5 HS4.out.2.2.2 hb5⟩)
  have HB5 := Lib.hid (HB4.out.trans (hb5.mono HB4.out.size))
  clear rB ho5 hb5
  try go_wp2_with fail
  refine hK.out _ _ HS5.out ?_
  clear hK K
  (try simp only [Act.put, List.setIfInBounds_toArray, List.set_cons_zero, List.set_cons_succ])
  (refine wpAnyT_one (i := 36) (oi := ?_) ?_ (by as_aux_lemma => kernel_rfl) (fun K hK => ?_); rotate_left; (focus (simp only [List.getElem?_toArray, List.getElem?_cons_succ, List.getElem?_cons_zero] <;> rfl)))
  go_simp
  go_at_call 44
  with_reducible refine (rresult_any HR5.out hol).mono ?_
  rintro e w6 ⟨v6, rfl, ho6, hb6⟩
  have rC := rd_of_owns ho6
  obtain ⟨a6, c6, rfl, _⟩ := owns_shape ho6
  have RC := Lib.hid rC
  have RB6 := Lib.hid (RB.out.below hb6 (Nat.le_refl _))
  have HS6 := Lib.hid (show (fun W => W.cell? ⟨q2, 3, none⟩ = some (.int .i64 s.fp) ∧ W.cell? ⟨q2, 4, none⟩ = some (.int .i64 s.top) ∧ W.cell? ⟨q2, 5, none⟩ = some (.int .i64 s.pc) ∧ W.cell? ⟨q2, 2, none⟩ = some sv2) w6 from ⟨late5 HS5.out.1 hb6, late5 HS5.out.2.1 hb6, late5 HS5.out.2.2.1 hb6, late5 HS5.out.2.2.2 hb6⟩)
  have HB6 := Lib.hid (HB5.out.trans (hb6.mono HB5.out.size))
  clear rC ho6 hb6
  try go_wp2_with fail
  refine hK.out _ _ HS6.out ?_
  clear hK K
  (try simp only [Act.put, List.setIfInBounds_toArray, List.set_cons_zero, List.set_cons_succ])
  (refine wpAnyT_one (i := 37) (oi := ?_) ?_ (by as_aux_lemma => kernel_rfl) (fun K hK => ?_); rotate_left; (focus (simp only [List.getElem?_toArray, List.getElem?_cons_succ, List.getElem?_cons_zero] <;> rfl)))
  go_simp
  go_at_call 30
  with_reducible refine (hresult_any _ _ _ _ _ _ RB6.out RC.out).mono ?_
  rintro e w7 ⟨rfl, hb7⟩
  have HS7 := Lib.hid (show (fun W => W.cell? ⟨q2, 3, none⟩ = some (.int .i64 s.fp) ∧ W.cell? ⟨q2, 4, none⟩ = some (.int .i64 s.top) ∧ W.cell? ⟨q2, 5, none⟩ = some (.int .i64 s.pc) ∧ W.cell? ⟨q2, 2, none⟩ = some sv2) w7 from ⟨late5 HS6.out.1 hb7, late5 HS6.out.2.1 hb7, late5 HS6.out.2.2.1 hb7, late5 HS6.out.2.2.2 hb7⟩)
  have HB7 := Lib.hid (HB6.out.trans (hb7.mono HB6.out.size))
  clear hb7
  try go_wp2_with fail
  refine hK.out _ _ HS7.out ?_
  clear hK K
  (try simp only [Act.put, List.setIfInBounds_toArray, List.set_cons_zero, List.set_cons_succ])
  (refine wpAnyT_take (i := 38) (oi := ?_) (v := ?_) ?_ (by as_aux_lemma => kernel_rfl) (by as_aux_lemma => kernel_rfl) (by as_aux_lemma => kernel_rfl) (by as_aux_lemma => kernel_rfl) ?_ (Or.inl ⟨?_, ?_⟩) HS7.out ?_; rotate_left 2; (focus (simp only [List.getElem?_toArray, List.getElem?_cons_succ, List.getElem?_cons_zero] <;> rfl)); (focus exact (fun _ _ _ h => h)); (focus rfl); (focus (intro w hSw; (try dsimp only at hSw); go_simp; try (with_reducible rfl))))
  (try simp only [Act.put, List.setIfInBounds_toArray, List.set_cons_zero, List.set_cons_succ])
  (refine wpAnyT_late (i := 39) (oi := ?_) ?_ (by as_aux_lemma => kernel_rfl) (by as_aux_lemma => kernel_rfl) (fun K hK => ?_); rotate_left; (focus (simp only [List.getElem?_toArray, List.getElem?_cons_succ, List.getElem?_cons_zero] <;> rfl)))
  go_simp
  refine hK.out _ _ ?_
  clear hK K
  refine wpAnyT_done (by as_aux_lemma => kernel_rfl) ?_ _
  go_wp2_with fail
  go_ret
  exact ⟨rfl, HB7.out⟩
set_option maxHeartbeats 1600000 in
theorem words_any (hm : SM true w B1 q1 F1 cv1 mv1 iv1 sv1 kv1 ov1 s) (hr : SM false w B2 q2 F2 cv2 mv2 iv2 sv2 kv2 ov2 s) :
    Calls Try.prog 29 #[.pointer (some ⟨q1, 0, none⟩), .pointer (some ⟨q2, 0, none⟩)] w fun e w' => e = .returned (.bool true) ∧ w = w' := by
  have cmv := hr.r1
  obtain ⟨a, cap, rfl, hn, hcap, _⟩ := owns_shape hr.mem
  unfold maxLen at hcap
  have hml := hr.fit.ml
  have hmem := hr.mem
  have hword := fun k hk => pword_any hm k hk
  obtain ⟨N, hNe⟩ : ∃ N, N = s.mem.length := ⟨_, rfl⟩
  rw [← hNe] at cmv hml hn hword hmem
  have HW := Lib.hid hword
  have HM := Lib.hid hmem
  have HNE := Lib.hid hNe
  clear hm hr hword hmem hNe
  go_enter Try.func29, Try.ntmps29
  go_wp2_with fail
  go_loop [5] (fun i => ∃ k : Nat, k ≤ N ∧ i = .int .i64 k) (fun i => N - (intOf i).toNat)
  case atStart => exact ⟨0, by omega, rfl⟩
  case round =>
    obtain ⟨k, hk, rfl⟩ := hrel
    by_cases hlt : k < N
    · obtain ⟨g, cap', he, _, _, _, _⟩ := owns_some HM.out (by omega)
      have cx := HM.out.cells (g := g) (by rw [he]; rfl) k _ (i32s_get s.mem k (by rw [← HNE.out]; exact hlt))
      rw [Addr.add_lit, Nat.zero_add] at cx
      injection he with ha _ _
      subst ha
      have c2 := HW.out k hlt
      obtain ⟨X, hX⟩ : ∃ X, X = s.mem.getD k 0 := ⟨_, rfl⟩
      rw [← hX] at cx c2
      have C2 := Lib.hid c2
      have hk0 : (0 : Int) ≤ (k : Int) := by omega
      have hk1 : (k : Int) < (N : Int) := by omega
      clear hX c2
      go_wp2_with (go_at_call 23; refine C2.out.mono ?_; rintro e w' ⟨rfl, rfl⟩)
      go_round
      case rel => exact ⟨k + 1, by omega, by go_num⟩
      case measure => simp [intOf]; omega
    · obtain rfl : k = N := by omega
      go_wp2_with (go_at_call 23; refine (pword_none _ _).mono ?_; rintro e w' ⟨rfl, rfl⟩)
      go_ret
      exact ⟨rfl, rfl⟩
end
end Go.Proofs.Ytgkdphnhfjjepaa

/- The contract of the laws' own example. -/
namespace Go.Proofs.Ytgkdphnhfjjepaa
open Go.RowKit Go.Waf
set_option maxRecDepth 100000
set_option linter.unusedVariables false
set_option linter.unusedSimpArgs false

theorem SM.fr_below {p : Bool} {w w' : World} {B q base : Nat} {F F' : Nat → Prop} {cv mv iv sv kv ov : Value} {s : SSt} (h : SM p w B q F cv mv iv sv kv ov s) (hB : base ≤ B) (hf : Mv w F F' w') : Below base w w' := by
  have := h.fb q h.fq
  exact hf.fr.below (by omega) (fun i hi hF => by have := h.fb i hF; omega)
def kcode : List (Int × Int) := [(1, 65), (33, 0), (0, 0)]
def kst : SSt := (SSt.new kcode 4 0 []).stepN 9
theorem kst_out : kst.out = [65] := by decide +kernel
theorem kst_fin : kst.fin = 1 := by decide +kernel
theorem kst_trap : kst.trap = 0 := by decide +kernel
theorem kst_pc : kst.pc = 2 := by decide +kernel
theorem kst_st : kst.st = [] := by decide +kernel
theorem kcode_ok : CodeOk kcode := by
  intro c hc
  unfold I32
  simp [kcode] at hc
  rcases hc with rfl | rfl | rfl <;> simp
theorem str_A : strOfNums [65] = ⟨#[65]⟩ := by rfl
set_option maxHeartbeats 3200000 in
theorem known_any (w : World) : Calls Try.prog 11 #[] w fun e w' => e = .returned (.bool true) ∧ Below w.heap.size w w' := by
  have hrd : Rd (w.alloc (.cells #[.int .i64 1, .int .i32 65, .int .i64 33, .int .i32 0, .int .i64 0, .int .i32 0] 25)) 2 (.slice (some ⟨w.heap.size, 0, none⟩) 3 3) 3 (codeCells kcode) := rd_new w (codeCells kcode) 25 3 2 rfl (by decide)
  have HRD := Lib.hid hrd
  clear hrd
  go_enter Try.func11, Try.ntmps11
  go_wp2_with fail
  refine (pnew_any _ _ _ 4 4 0 (.inl rfl) kcode [] kcode_ok (by decide) (by simp) (by simp) (by omega) HRD.out (Rd.nil _ 1)).mono ?_
  rintro e w5 ⟨q, F, cv, mv, iv, rfl, hM, _, _, hb5⟩
  have HM := Lib.hid (show SM true w5 _ q F cv mv iv (.slice none 0 0) (.slice none 0 0) (.slice none 0 0) (SSt.new kcode 4 0 []) from hM)
  have HB5 := Lib.hid (((Below.refl w.heap.size w).alloc (Nat.le_refl _) (.cells #[.int .i64 1, .int .i32 65, .int .i64 33, .int .i32 0, .int .i64 0, .int .i32 0] 25)).trans (hb5.mono (by simp)))
  clear hM hb5 HRD
  go_wp2_with fail
  refine (prun_any HM.out 9 (by omega) (by omega) (by simp [SSt.new])).mono ?_
  rintro e w6 ⟨v, he, ho, F', iv', sv', kv', ov', hM6, _, hmv⟩
  change SM true w6 _ q F' cv mv iv' sv' kv' ov' kst at hM6
  change w6.ownsRow _ _ _ v kst.out.length (byt kst.out) at ho
  change e = .returned (.agg #[v, .int .i64 kst.fin, .int .i64 kst.trap]) at he
  rw [kst_fin, kst_trap] at he
  rw [kst_out] at ho
  subst he
  obtain ⟨va, vc, rfl, _, _, _⟩ := owns_shape ho
  have hb6 : Below w.heap.size w w6 := HB5.out.trans (HM.out.fr_below (by simp) hmv)
  have kc := fun O : Obj => conv_box _ (.slice va [65].length vc) [65] ((rd_of_owns ho).below ((Below.refl _ _).alloc (Nat.le_refl _) O) (Nat.le_refl _))
  rw [str_A] at kc
  replace kc : ∀ O : Obj, (convert 29 9 (.slice va 1 vc)).run Try.prog (w6.alloc O) = .ok (.string ⟨#[65]⟩) (w6.alloc O) := kc
  have HM7 := Lib.hid (fun O : Obj => hM6.alloc O)
  have HB6 := Lib.hid hb6
  have hpc := fun O : Obj => ppc_any (hM6.alloc O)
  rw [kst_pc] at hpc
  have HPC := Lib.hid hpc
  have hop := fun O : Obj => pops_any (hM6.alloc O)
  rw [kst_st] at hop
  have HOP := Lib.hid hop
  have HB5' := Lib.hid (show w.heap.size ≤ (w.alloc (.cells #[.int .i64 1, .int .i32 65, .int .i64 33, .int .i32 0, .int .i64 0, .int .i32 0] 25)).heap.size by simp)
  clear ho hM6 hmv hb6 hpc hop
  go_wp2_with fail
  refine (HPC.out _).mono ?_; rintro e wz ⟨rfl, rfl⟩
  go_wp2_with fail
  refine (HOP.out _).mono ?_; rintro e w8 ⟨v8, rfl, ho8, hb8⟩
  obtain ⟨a8, c8, rfl, _⟩ := owns_shape ho8
  have hM8 := (HM7.out _).below hb8
  have hS := pstep_any hM8 (by rw [kst_out]; simp)
  have HS := Lib.hid hS
  have HM8 := Lib.hid hM8
  have HB8 := Lib.hid ((HB6.out.alloc HB6.out.size _).trans (hb8.mono (HB6.out.alloc HB6.out.size _).size))
  clear ho8 hb8 hM8 hS
  go_wp2_with fail
  refine HS.out.mono ?_; rintro e w9 ⟨he, F9, iv9, sv9, kv9, ov9, hM9, _, hmv9⟩
  rw [kst_fin] at he
  have he' : e = .returned (.bool false) := he
  subst he'
  have HB9 := Lib.hid (HB8.out.trans (HM8.out.fr_below HB5'.out hmv9))
  clear hM9 hmv9
  go_wp2_with fail
  go_ret
  exact ⟨rfl, HB9.out⟩
end Go.Proofs.Ytgkdphnhfjjepaa

/- Two stack machines beside one another: what one does leaves the other as it is. -/
namespace Go.Proofs.Ytgkdphnhfjjepaa
open Go.RowKit Go.Waf
set_option maxRecDepth 100000
set_option linter.unusedVariables false
set_option linter.unusedSimpArgs false

structure DuoM (p1 p2 : Bool) (w : World) (base q1 q2 : Nat) (R : Nat → Prop) (cv1 mv1 cv2 mv2 : Value) (s1 s2 : SSt) (B1 B2 : Nat) (F1 F2 : Nat → Prop) (iv1 sv1 kv1 ov1 iv2 sv2 kv2 ov2 : Value) : Prop where
  m1 : SM p1 w B1 q1 F1 cv1 mv1 iv1 sv1 kv1 ov1 s1
  m2 : SM p2 w B2 q2 F2 cv2 mv2 iv2 sv2 kv2 ov2 s2
  b1 : base ≤ B1
  b2 : base ≤ B2
  dis : ∀ k, F1 k → ¬ F2 k
  c1 : ∀ k, cv1.ownBlock = some k → 0 < s1.code.length → ¬ F2 k
  i1 : ∀ k, iv1.ownBlock = some k → 0 < s1.inp.length → ¬ F2 k
  c2 : ∀ k, cv2.ownBlock = some k → 0 < s2.code.length → ¬ F1 k
  i2 : ∀ k, iv2.ownBlock = some k → 0 < s2.inp.length → ¬ F1 k
  r : ∀ k, R k → ¬ F2 k
def Duo (p1 p2 : Bool) (w : World) (base q1 q2 : Nat) (R : Nat → Prop) (cv1 mv1 cv2 mv2 : Value) (s1 s2 : SSt) : Prop :=
  ∃ B1 B2 F1 F2 iv1 sv1 kv1 ov1 iv2 sv2 kv2 ov2, DuoM p1 p2 w base q1 q2 R cv1 mv1 cv2 mv2 s1 s2 B1 B2 F1 F2 iv1 sv1 kv1 ov1 iv2 sv2 kv2 ov2
section
variable {p1 p2 : Bool} {w w' : World} {base q1 q2 B1 B2 : Nat} {R F1 F2 : Nat → Prop} {cv1 mv1 cv2 mv2 iv1 sv1 kv1 ov1 iv2 sv2 kv2 ov2 : Value} {s1 s2 : SSt}
theorem DuoM.left (h : DuoM p1 p2 w base q1 q2 R cv1 mv1 cv2 mv2 s1 s2 B1 B2 F1 F2 iv1 sv1 kv1 ov1 iv2 sv2 kv2 ov2) {s' : SSt} {F' : Nat → Prop} {iv' sv' kv' ov' : Value} (R' : Nat → Prop) (hM : SM p1 w' B1 q1 F' cv1 mv1 iv' sv' kv' ov' s') (hm : Mv w F1 F' w')
    (hiv : iv'.ownBlock = iv1.ownBlock) (hc : s'.code = s1.code) (hi : s'.inp.length ≤ s1.inp.length) (hr : ∀ k, R' k → w.heap.size ≤ k) : Duo p1 p2 w' base q1 q2 R' cv1 mv1 cv2 mv2 s' s2 := by
  have hlt : ∀ k, F2 k → k < w.heap.size := fun k hk => (h.m2.fb k hk).2
  refine ⟨B1, B2, F', F2, iv', sv', kv', ov', iv2, sv2, kv2, ov2, hM, h.m2.keep hm.fr (fun k h2 h1 => h.dis k h1 h2) h.c2 h.i2, h.b1, h.b2, fun k h1 h2 => ?_, fun k hk hn => h.c1 k hk (by rw [← hc]; exact hn), fun k hk hn => h.i1 k (by rw [← hiv]; exact hk) (by omega), fun k hk hn h1 => ?_, fun k hk hn h1 => ?_, fun k hk h2 => ?_⟩
  · rcases hm.new k h1 with h3 | h3
    · exact h.dis k h3 h2
    · have := hlt k h2; omega
  · rcases hm.new k h1 with h3 | h3
    · exact h.c2 k hk hn h3
    · have := rd_block h.m2.code (by decide) hn hk; omega
  · rcases hm.new k h1 with h3 | h3
    · exact h.i2 k hk hn h3
    · have := rd_block h.m2.inp (by decide) hn hk; omega
  · have := hlt k h2; have := hr k hk; omega
theorem DuoM.swap (h : DuoM p1 p2 w base q1 q2 R cv1 mv1 cv2 mv2 s1 s2 B1 B2 F1 F2 iv1 sv1 kv1 ov1 iv2 sv2 kv2 ov2) : DuoM p2 p1 w base q2 q1 (fun _ => False) cv2 mv2 cv1 mv1 s2 s1 B2 B1 F2 F1 iv2 sv2 kv2 ov2 iv1 sv1 kv1 ov1 :=
  ⟨h.m2, h.m1, h.b2, h.b1, fun k h2 h1 => h.dis k h1 h2, h.c2, h.i2, h.c1, h.i1, fun _ hf => hf.elim⟩
theorem Duo.swap (h : Duo p1 p2 w base q1 q2 R cv1 mv1 cv2 mv2 s1 s2) : Duo p2 p1 w base q2 q1 (fun _ => False) cv2 mv2 cv1 mv1 s2 s1 := by
  obtain ⟨_, _, _, _, _, _, _, _, _, _, _, _, h⟩ := h; exact ⟨_, _, _, _, _, _, _, _, _, _, _, _, h.swap⟩
theorem Duo.below (h : Duo p1 p2 w base q1 q2 R cv1 mv1 cv2 mv2 s1 s2) (hb : Below w.heap.size w w') : Duo p1 p2 w' base q1 q2 R cv1 mv1 cv2 mv2 s1 s2 := by
  obtain ⟨_, _, _, _, _, _, _, _, _, _, _, _, h⟩ := h
  exact ⟨_, _, _, _, _, _, _, _, _, _, _, _, h.m1.below hb, h.m2.below hb, h.b1, h.b2, h.dis, h.c1, h.i1, h.c2, h.i2, h.r⟩
/-- Both made, one behind the other. -/
theorem duo_new {p1 p2 : Bool} {w wa wb : World} {N1 N2 bs1 bs2 : Nat} {code : List (Int × Int)} {inp : List Int} {cb1 ib1 cb2 ib2 : Nat → Prop} {e1 e2 : Ending} (hb0 : base ≤ w.heap.size) (h1 : NewPost p1 w code N1 bs1 inp cb1 ib1 e1 wa) (h2 : NewPost p2 wa code N2 bs2 inp cb2 ib2 e2 wb) (hc2 : ∀ k, cb2 k → 0 < code.length → k < w.heap.size ∨ wa.heap.size ≤ k) (hi2 : ∀ k, ib2 k → 0 < inp.length → k < w.heap.size ∨ wa.heap.size ≤ k) (hc1 : ∀ k, cb1 k → w.heap.size ≤ k) (hi1 : ∀ k, ib1 k → w.heap.size ≤ k) :
    ∃ q1 q2 cv1 mv1 cv2 mv2, e1 = .returned (.pointer (some ⟨q1, 0, none⟩)) ∧ e2 = .returned (.pointer (some ⟨q2, 0, none⟩)) ∧ Duo p1 p2 wb base q1 q2 (fun _ => False) cv1 mv1 cv2 mv2 (SSt.new code N1 bs1 inp) (SSt.new code N2 bs2 inp) ∧ Below w.heap.size w wb := by
  obtain ⟨q1, F1, cv1, mv1, iv1, rfl, m1, k1, j1, b1⟩ := h1
  obtain ⟨q2, F2, cv2, mv2, iv2, rfl, m2, k2, j2, b2⟩ := h2
  refine ⟨q1, q2, cv1, mv1, cv2, mv2, rfl, rfl, ⟨_, _, F1, F2, iv1, _, _, _, iv2, _, _, _, m1.below b2, m2, by omega, Nat.le_trans hb0 b1.size, fun k h1 h2 => ?_, fun k hk hn h2 => ?_, fun k hk hn h2 => ?_, fun k hk hn h1 => ?_, fun k hk hn h1 => ?_, fun _ hf => hf.elim⟩, b1.trans (b2.mono b1.size)⟩
  · have := m1.fb k h1; have := m2.fb k h2; omega
  · have := rd_block m1.code (by decide) hn hk; have := m2.fb k h2; omega
  · have := rd_block m1.inp (by decide) hn hk; have := m2.fb k h2; omega
  · have := hc2 k (k2 k hk hn) hn; have := m1.fb k h1; omega
  · have := hi2 k (j2 k hk hn) hn; have := m1.fb k h1; omega
end
section
variable {w : World} {base q1 q2 : Nat} {R : Nat → Prop} {cv1 mv1 cv2 mv2 : Value} {s1 s2 : SSt}
theorem stepN_keepsN {s : SSt} (hf : ∀ n, 0 ≤ (s.stepN n).top) : ∀ n, KeepsN n s (s.stepN n)
  | 0 => ⟨rfl, Nat.le_refl _, rfl, Nat.le_refl _⟩
  | n + 1 => by
    have h1 := stepN_keepsN hf n
    have h2 := step_keeps (s.stepN n) (hf n)
    rw [← SSt.stepN_succ] at h2
    exact ⟨h2.1.trans h1.1, Nat.le_trans h2.2.1 h1.2.1, h2.2.2.1.trans h1.2.2.1, by have := h2.2.2.2; have := h1.2.2.2; omega⟩
def DuoRun (p1 p2 : Bool) (w : World) (base q1 q2 : Nat) (cv1 mv1 cv2 mv2 : Value) (s1 s2 : SSt) (e : Ending) (w' : World) : Prop :=
  ∃ va vc, e = .returned (.agg #[.slice va s1.out.length vc, .int .i64 s1.fin, .int .i64 s1.trap]) ∧ Rd w' 1 (.slice va s1.out.length vc) s1.out.length (byt s1.out) ∧ Duo p1 p2 w' base q1 q2 (fun k => (Value.slice va s1.out.length vc).ownBlock = some k) cv1 mv1 cv2 mv2 s1 s2 ∧ Below base w w'
theorem duo_of_run {p1 p2 : Bool} {s : SSt} (hc : s.code = s1.code) (hi : s.inp.length ≤ s1.inp.length) (B1 B2 : Nat) (F1 F2 : Nat → Prop) (iv1 sv1 kv1 ov1 iv2 sv2 kv2 ov2 : Value) (h : DuoM p1 p2 w base q1 q2 R cv1 mv1 cv2 mv2 s1 s2 B1 B2 F1 F2 iv1 sv1 kv1 ov1 iv2 sv2 kv2 ov2) {e : Ending} {w' : World} (hp : RunPost p1 w B1 q1 F1 cv1 mv1 iv1 s e w') :
    DuoRun p1 p2 w base q1 q2 cv1 mv1 cv2 mv2 s s2 e w' := by
  obtain ⟨v, he, ho, F', iv', sv', kv', ov', hM, hiv, hm⟩ := hp
  obtain ⟨va, vc, rfl, _, _, _⟩ := owns_shape ho
  exact ⟨va, vc, he, rd_of_owns ho, h.left _ hM hm hiv hc hi (fun k hk => (ho.lt k hk).1), h.m1.fr_below h.b1 hm⟩
theorem duo_run_pl {p2 : Bool} (h : Duo true p2 w base q1 q2 R cv1 mv1 cv2 mv2 s1 s2) (hk : ∀ n, KeepsN n s1 (s1.stepN n)) (fuel : Int) (hf0 : -9223372036854775808 ≤ fuel) (hf1 : fuel ≤ 10000) (hol : s1.out.length ≤ 900000) :
    Calls Try.prog 13 #[.pointer (some ⟨q1, 0, none⟩), .int .i64 fuel] w (DuoRun true p2 w base q1 q2 cv1 mv1 cv2 mv2 (s1.stepN fuel.toNat) s2) := by
  obtain ⟨B1, B2, F1, F2, iv1, sv1, kv1, ov1, iv2, sv2, kv2, ov2, h⟩ := h
  exact (prun_any h.m1 fuel hf0 hf1 hol).mono fun e w' hp => duo_of_run (hk _).1 (hk _).2.1 _ _ _ _ _ _ _ _ _ _ _ _ h hp
/-- The second runs; what the first has told stays. -/
def DuoRun2 (p1 p2 : Bool) (w : World) (base q1 q2 : Nat) (R : Nat → Prop) (cv1 mv1 cv2 mv2 : Value) (s1 s2 : SSt) (e : Ending) (w' : World) : Prop :=
  ∃ va vc, e = .returned (.agg #[.slice va s2.out.length vc, .int .i64 s2.fin, .int .i64 s2.trap]) ∧ Rd w' 1 (.slice va s2.out.length vc) s2.out.length (byt s2.out) ∧ Duo p1 p2 w' base q1 q2 (fun _ => False) cv1 mv1 cv2 mv2 s1 s2 ∧ Below base w w' ∧ ∃ G : Nat → Prop, Fr G w w' ∧ ∀ k, R k → ¬ G k
theorem duo_of_run2 {p1 p2 : Bool} {s : SSt} (hc : s.code = s2.code) (hi : s.inp.length ≤ s2.inp.length) (B1 B2 : Nat) (F1 F2 : Nat → Prop) (iv1 sv1 kv1 ov1 iv2 sv2 kv2 ov2 : Value) (h : DuoM p1 p2 w base q1 q2 R cv1 mv1 cv2 mv2 s1 s2 B1 B2 F1 F2 iv1 sv1 kv1 ov1 iv2 sv2 kv2 ov2) {e : Ending} {w' : World} (hp : RunPost p2 w B2 q2 F2 cv2 mv2 iv2 s e w') :
    DuoRun2 p1 p2 w base q1 q2 R cv1 mv1 cv2 mv2 s1 s e w' := by
  obtain ⟨va, vc, he, hr, hd, hb⟩ := duo_of_run hc hi _ _ _ _ _ _ _ _ _ _ _ _ h.swap hp
  obtain ⟨v, _, ho, F', iv', sv', kv', ov', hM, hiv, hm⟩ := hp
  exact ⟨va, vc, he, hr, hd.swap, hb, F2, hm.fr, h.r⟩
theorem duo_run_r2 {p1 : Bool} (h : Duo p1 false w base q1 q2 R cv1 mv1 cv2 mv2 s1 s2) (hk : ∀ n, KeepsN n s2 (s2.stepN n)) (fuel : Int) (hf0 : -9223372036854775808 ≤ fuel) (hf1 : fuel ≤ 10000) (hol : s2.out.length ≤ 900000) :
    Calls Try.prog 31 #[.pointer (some ⟨q2, 0, none⟩), .int .i64 fuel] w (DuoRun2 p1 false w base q1 q2 R cv1 mv1 cv2 mv2 s1 (s2.stepN fuel.toNat)) := by
  obtain ⟨B1, B2, F1, F2, iv1, sv1, kv1, ov1, iv2, sv2, kv2, ov2, h⟩ := h
  exact (rrun_any h.m2 fuel hf0 hf1 hol).mono fun e w' hp => duo_of_run2 (hk _).1 (hk _).2.1 _ _ _ _ _ _ _ _ _ _ _ _ h hp
theorem duo_step_p {p2 : Bool} (h : Duo true p2 w base q1 q2 R cv1 mv1 cv2 mv2 s1 s2) (hol : s1.out.length ≤ 1000000) :
    Calls Try.prog 26 #[.pointer (some ⟨q1, 0, none⟩)] w fun e w' => e = .returned (.bool (decide (s1.fin = 0))) ∧ Duo true p2 w' base q1 q2 (fun _ => False) cv1 mv1 cv2 mv2 s1.step s2 ∧ Below base w w' := by
  obtain ⟨B1, B2, F1, F2, iv1, sv1, kv1, ov1, iv2, sv2, kv2, ov2, h⟩ := h
  refine (pstep_any h.m1 hol).mono ?_
  rintro e w' ⟨he, F', iv', sv', kv', ov', hM, hiv, hm⟩
  have hk := step_keeps s1 h.m1.fit.t0
  exact ⟨he, h.left _ hM hm hiv hk.1 hk.2.1 (fun _ hf => hf.elim), h.m1.fr_below h.b1 hm⟩
theorem duo_step_r {p2 : Bool} (h : Duo false p2 w base q1 q2 R cv1 mv1 cv2 mv2 s1 s2) (hol : s1.out.length ≤ 1000000) :
    Calls Try.prog 27 #[.pointer (some ⟨q1, 0, none⟩)] w fun e w' => e = .returned (.bool (decide (s1.fin = 0))) ∧ Duo false p2 w' base q1 q2 (fun _ => False) cv1 mv1 cv2 mv2 s1.step s2 ∧ Below base w w' := by
  obtain ⟨B1, B2, F1, F2, iv1, sv1, kv1, ov1, iv2, sv2, kv2, ov2, h⟩ := h
  refine (rstep_any h.m1 hol).mono ?_
  rintro e w' ⟨he, F', iv', sv', kv', ov', hM, hiv, hm⟩
  have hk := step_keeps s1 h.m1.fit.t0
  exact ⟨he, h.left _ hM hm hiv hk.1 hk.2.1 (fun _ hf => hf.elim), h.m1.fr_below h.b1 hm⟩
end
end Go.Proofs.Ytgkdphnhfjjepaa

/- What a stack machine's steps keep; a slice of instructions that came in. -/
namespace Go.Proofs.Ytgkdphnhfjjepaa
open Go.RowKit Go.Waf
set_option maxRecDepth 100000
set_option linter.unusedVariables false
set_option linter.unusedSimpArgs false

def Top0 (s : SSt) : Prop := 0 ≤ s.fp ∧ 0 ≤ s.top ∧ ∀ x ∈ s.kept, 0 ≤ x.2
theorem reckon_top0 {s s' : SSt} {op : Int} (ht : Top0 s) (h : s.reckon op = some s') : Top0 s' := by
  unfold SSt.reckon at h
  repeat' (split at h)
  all_goals first
    | (cases h; done)
    | (cases h; exact ht)
    | (obtain ⟨x, _, rfl⟩ := Option.map_eq_some_iff.1 h; exact ht)
theorem lead_top0 {s s' : SSt} {op k : Int} (ht : Top0 s) (h : s.lead op k = some s') : Top0 s' := by
  obtain ⟨h1, h2, h3⟩ := ht
  unfold SSt.lead at h
  by_cases h0 : op = 0
  · rw [if_pos h0] at h; cases h; exact ⟨h1, h2, h3⟩
  rw [if_neg h0] at h
  by_cases h30 : op = 30
  · rw [if_pos h30] at h
    split at h
    · cases h; exact ⟨h1, h2, h3⟩
    · cases h
  rw [if_neg h30] at h
  by_cases h25 : op = 25
  · rw [if_pos h25] at h; cases h; exact ⟨h1, h2, h3⟩
  rw [if_neg h25] at h
  by_cases h26 : op = 26
  · rw [if_pos h26] at h
    split at h
    · cases h
    · cases h; exact ⟨h1, h2, h3⟩
  rw [if_neg h26] at h
  by_cases h27 : op = 27
  · rw [if_pos h27] at h
    split at h
    · cases h; exact ⟨h1, h2, fun x hx => by
        rcases List.mem_cons.1 hx with rfl | hx
        · exact h1
        · exact h3 x hx⟩
    · cases h
  rw [if_neg h27] at h
  by_cases h28 : op = 28
  · rw [if_pos h28] at h
    split at h
    · rename_i hc
      cases h; exact ⟨h2, by show 0 ≤ s.top + k; omega, h3⟩
    · cases h
  rw [if_neg h28] at h
  split at h
  · cases h
  · rename_i x t hkt
    cases h; exact ⟨h3 x (by rw [hkt]; exact List.mem_cons_self ..), h1, fun y hy => h3 y (by rw [hkt]; exact List.mem_cons_of_mem _ hy)⟩
theorem lay_top0 {s s' : SSt} {x : Int} (ht : Top0 s) (h : s.lay x = some s') : Top0 s' := by
  unfold SSt.lay at h
  split at h
  · cases h; exact ht
  · cases h
theorem carry_top0 {s s' : SSt} {op k : Int} (ht : Top0 s) (h : s.carry op k = some s') : Top0 s' := by
  unfold SSt.carry at h
  by_cases h1 : op = 1
  · rw [if_pos h1] at h; exact lay_top0 ht h
  rw [if_neg h1] at h
  by_cases h2 : op = 2
  · rw [if_pos h2] at h
    split at h
    · cases h
    · exact lay_top0 ht h
  rw [if_neg h2] at h
  by_cases h3 : op = 3
  · rw [if_pos h3] at h
    split at h
    · cases h
    · cases h; exact ht
  rw [if_neg h3] at h
  by_cases h4 : op = 4
  · rw [if_pos h4] at h
    split at h
    · cases h; exact ht
    · cases h
  rw [if_neg h4] at h
  by_cases h5 : op = 5
  · rw [if_pos h5] at h
    exact lay_top0 ht h
  rw [if_neg h5] at h
  by_cases h6 : op = 6
  · rw [if_pos h6] at h
    split at h
    · cases h
    · split at h
      · cases h; exact ht
      · cases h
  rw [if_neg h6] at h
  by_cases h7 : op = 7
  · rw [if_pos h7] at h
    split at h
    · split at h
      · cases h; exact ht
      · cases h
    · cases h
  rw [if_neg h7] at h
  by_cases h8 : op = 8
  · rw [if_pos h8] at h
    split at h
    · split at h
      · cases h; exact ht
      · cases h
    · cases h
  rw [if_neg h8] at h
  by_cases h31 : op = 31
  · rw [if_pos h31] at h
    exact lay_top0 (s := { s with inp := s.inp.tail }) ht h
  rw [if_neg h31] at h
  by_cases h32 : op = 32
  · rw [if_pos h32] at h
    exact lay_top0 ht h
  rw [if_neg h32] at h
  split at h
  · cases h
  · cases h; exact ht
theorem exec_top0 {s s' : SSt} {op k : Int} (ht : Top0 s) (h : s.exec op k = some s') : Top0 s' := by
  unfold SSt.exec at h
  split at h
  · exact reckon_top0 ht h
  · split at h
    · exact lead_top0 ht h
    · exact carry_top0 ht h

theorem step_top0 {s : SSt} (ht : Top0 s) : Top0 s.step := by
  unfold SSt.step
  split
  · unfold SSt.step1 SSt.try1
    split
    · split
      · cases he : s.next.exec s.at'.1 s.at'.2 with
        | none => exact ht
        | some s' => exact exec_top0 (s := s.next) ht he
      · exact ht
    · exact ht
  · exact ht
theorem stepN_top0 {s : SSt} (ht : Top0 s) : ∀ n, Top0 (s.stepN n)
  | 0 => ht
  | n + 1 => by rw [SSt.stepN_succ]; exact step_top0 (stepN_top0 ht n)
theorem new_top0 (code : List (Int × Int)) (N base : Nat) (inp : List Int) : Top0 (SSt.new code N base inp) := ⟨by show (0 : Int) ≤ base; omega, by show (0 : Int) ≤ base; omega, fun x hx => nomatch hx⟩
theorem new_keepsN (code : List (Int × Int)) (N base : Nat) (inp : List Int) (n : Nat) : KeepsN n (SSt.new code N base inp) ((SSt.new code N base inp).stepN n) := stepN_keepsN (fun n => (stepN_top0 (new_top0 code N base inp) n).2.1) n

/-! A slice of instructions that came in -/
def codeOf (V N : Nat → Int) (n : Nat) : List (Int × Int) := (List.range n).map fun i => (V i, N i)
theorem codeOf_length (V N : Nat → Int) (n : Nat) : (codeOf V N n).length = n := by simp [codeOf]
theorem codeOf_getD (V N : Nat → Int) (n j : Nat) (h : j < n) : (codeOf V N n).getD j (0, 0) = (V j, N j) := by simp [codeOf, h]
theorem rd_of_pairs {w : World} {a : Option Addr} {len cap : Nat} {V N : Nat → Int} (h : PairsAt w .i64 .i32 a len cap V N) : Rd w 2 (.slice a len cap) (codeOf V N len).length (codeCells (codeOf V N len)) := by
  rw [codeOf_length]
  refine ⟨by rw [codeCells_length, codeOf_length], a, cap, rfl, h.le, by simpa [maxLen] using h.cap63, h.nil, fun hn => ?_⟩
  obtain ⟨b, off, ha, _, hc⟩ := h.cells hn
  refine ⟨b, off, ha, fun j u hu => ?_⟩
  have hj : j < len * 2 := by
    have := (List.getElem?_eq_some_iff.1 hu).1
    rw [codeCells_length, codeOf_length] at this; exact this
  have hi : j / 2 < len := by omega
  have hg := codeCells_get (codeOf V N len) (j / 2) (by rw [codeOf_length]; exact hi)
  rw [codeOf_getD V N len _ hi] at hg
  obtain ⟨c1, c2⟩ := hc (j / 2) hi
  rcases (by omega : j = 2 * (j / 2) ∨ j = 2 * (j / 2) + 1) with e | e
  · rw [e, hg.1] at hu
    cases hu
    rw [show off + j = off + j / 2 * 2 by omega]; exact c1
  · rw [e, hg.2] at hu
    cases hu
    rw [show off + j = off + j / 2 * 2 + 1 by omega]; exact c2
theorem code_ok_of {w : World} {a : Option Addr} {len cap : Nat} {V N : Nat → Int} (h : PairsAt w .i64 .i32 a len cap V N) : CodeOk (codeOf V N len) := fun c hc => by
  obtain ⟨i, hi, rfl⟩ := List.mem_map.1 hc
  have hi' : i < len := by simpa using hi
  have h1 := rng_i64 (h.wf i hi').1
  have h2 := rng_i32 (h.wf i hi').2
  unfold I32
  exact ⟨h1.1, h1.2, h2.1, h2.2⟩
theorem byt_of_row {w : World} {a : Option Addr} {len cap : Nat} {zs : List Int} (h : RowOf .u8 w a len cap zs) : ∀ x ∈ zs.take len, Byt x := fun x hx => by
  have := rng_u8 (h.wf x hx); unfold Byt; omega
theorem rd_fr {w w' : World} {G : Nat → Prop} {v : Value} {n : Nat} {cs : List Value} (h : Rd w 1 v n cs) (hf : Fr G w w') (hv : ∀ k, v.ownBlock = some k → ¬ G k) : Rd w' 1 v n cs := Rd_keep h hf fun k hk _ => hv k hk
end Go.Proofs.Ytgkdphnhfjjepaa
