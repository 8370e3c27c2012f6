/- How known code runs, in plain Lean: a load or a store at any place. -/
import Derived.Test.YtflinbfobadheaaRisc29
namespace Go.Proofs.Ytflinbfobadheaa
open Go.RowKit Go.Waf
set_option maxRecDepth 100000
set_option linter.unusedVariables false

def insL (p : Int) (st : Bool) (v : Int) : List Ins := [⟨1, true, false, 2, 0, 0, 0, p / 65536⟩, ⟨1, false, false, 2, 2, 0, 6, p % 65536⟩, ⟨1, false, false, 3, 0, 0, 0, v⟩, ⟨2, st, false, 3, 2, 0, 0, 0⟩, ⟨3, false, true, 7, 0, 12, 0, 0⟩]
theorem ins_right (p v : Int) (st : Bool) (hp : W32 p) (hv : 0 ≤ v ∧ v < 65536) : ∀ i ∈ insL p st v, Right i := by
  obtain ⟨p0, p1⟩ := hp
  intro i hi
  simp only [insL, List.mem_cons, List.not_mem_nil, or_false] at hi
  rcases hi with rfl | rfl | rfl | rfl | rfl
  · exact right1 (by omega) (by omega) (by omega) (by omega) (by omega)
  · exact right1 (by omega) (by omega) (by omega) (by omega) (by omega)
  · exact right1 (by omega) (by omega) (by omega) (by omega) (by omega)
  · exact right2 (by omega) (by omega) (by omega) (by omega)
  · exact right4 (by omega) (by omega) (by omega) (by omega)
def insC (p : Int) (st : Bool) (v : Int) : List Int := (insL p st v).map encW
theorem ins_step {p v : Int} {st : Bool} (hp : W32 p) (hv : 0 ≤ v ∧ v < 65536) {s : St} (j : Nat) (i : Ins) (hi : (insL p st v)[j]? = some i) (hc : s.code = insC p st v) (hf : s.fin = 0) (hpc : s.pc = j) : s.step = s.exec i :=
  step_at hf hpc (by rw [hc, insC, List.getElem?_map, hi]; rfl) (ins_right p v st hp hv i (List.mem_of_getElem? hi))
theorem ins_halt {p v : Int} {st : Bool} (hp : W32 p) (hv : 0 ≤ v ∧ v < 65536) {s : St} (hc : s.code = insC p st v) (hf : s.fin = 0) (hpc : s.pc = 4) : s.stepN 5 = { s with fin := 1 } := by
  have e : s.step = { s with fin := 1 } := by
    rw [ins_step hp hv 4 _ rfl hc hf hpc, exec_end rfl (t := 5) (s' := { s with fin := 1 }) ?_ (by show (1 : Int) ≠ 0; decide)]
    unfold St.branch
    rw [hpc]; rfl
  show s.step.stepN 4 = _
  rw [e, St.stepN_stop _ (by show (1 : Int) ≠ 0; decide)]
theorem ins_run (p v : Int) (st : Bool) (N : Nat) (hp : W32 p) (hv : 0 ≤ v ∧ v < 65536) :
    ∃ s : St, (St.new (insC p st v) N [9]).stepN 9 = s ∧ s.mem.length = N ∧
      ((p = 4294967232 ∨ (p = 4294967236 ∧ st = false)) → s.fin = 1) ∧
      (¬ (p = 4294967232 ∨ (p = 4294967236 ∧ st = false)) → (p % 4 ≠ 0 ∨ (N : Int) ≤ p / 4) → s.fin = 2 ∧ s.trap = 15 ∧ s.out = []) ∧
      (¬ (p = 4294967232 ∨ (p = 4294967236 ∧ st = false)) → p % 4 = 0 → p / 4 < (N : Int) → s.fin = 1 ∧ s.mem.getD (p / 4).toNat 0 = if st then v else 0) := by
  have hml := (stepN_inp (St.new (insC p st v) N [9]) 9).2
  obtain ⟨C, hC⟩ : ∃ C, C = insC p st v := ⟨_, rfl⟩
  have stp := fun s j i hi hc hf hpc => @ins_step p v st hp hv s j i hi hc hf hpc
  have hlt := fun s hc hf hpc => @ins_halt p v st hp hv s hc hf hpc
  rw [← hC] at stp hlt hml ⊢
  have hoa := or_hilo p hp.1 hp.2
  obtain ⟨ah, hah⟩ : ∃ x, x = p / 65536 := ⟨_, rfl⟩
  obtain ⟨al, hal⟩ : ∃ x, x = p % 65536 := ⟨_, rfl⟩
  simp only [insL, ← hah, ← hal] at stp hoa
  have e1 : (St.new C N [9]).step = ⟨C, zeros N, [9], [0, 0, cut32 (ah * 65536), 0, 0, 0, 0, 0, 0, 0, 0, 0, 0, 0, 0, 0], 0, decide (2147483648 ≤ cut32 (ah * 65536)), cut32 (ah * 65536) == 0, false, false, 1, [], 0, 0⟩ := by
    rw [stp _ 0 _ rfl rfl rfl rfl, exec_val (x := cut32 (ah * 65536)) (s1 := St.new C N [9]) (by show (1 : Int) < 2; decide) rfl]; rfl
  have e2 : (St.new C N [9]).step.step = ⟨C, zeros N, [9], [0, 0, p, 0, 0, 0, 0, 0, 0, 0, 0, 0, 0, 0, 0, 0], 0, decide (2147483648 ≤ p), p == 0, false, false, 2, [], 0, 0⟩ := by
    rw [e1, stp _ 1 _ rfl rfl rfl rfl, exec_val (x := bits .or .u32 (cut32 (ah * 65536)) al) (s1 := ⟨C, zeros N, [9], [0, 0, cut32 (ah * 65536), 0, 0, 0, 0, 0, 0, 0, 0, 0, 0, 0, 0, 0], 0, decide (2147483648 ≤ cut32 (ah * 65536)), cut32 (ah * 65536) == 0, false, false, 1, [], 0, 0⟩) (by show (1 : Int) < 2; decide) rfl, hoa]; rfl
  obtain ⟨s3, hs3⟩ : ∃ s3 : St, s3 = ⟨C, zeros N, [9], [0, 0, p, v, 0, 0, 0, 0, 0, 0, 0, 0, 0, 0, 0, 0], 0, decide (2147483648 ≤ v), v == 0, false, false, 3, [], 0, 0⟩ := ⟨_, rfl⟩
  have e3 : (St.new C N [9]).step.step.step = s3 := by
    rw [e2, stp _ 2 _ rfl rfl rfl rfl, exec_val (x := v) (s1 := ⟨C, zeros N, [9], [0, 0, p, 0, 0, 0, 0, 0, 0, 0, 0, 0, 0, 0, 0, 0], 0, decide (2147483648 ≤ p), p == 0, false, false, 2, [], 0, 0⟩) (by show (1 : Int) < 2; decide) rfl, hs3]; rfl
  have hpl : s3.place ⟨2, st, false, 3, 2, 0, 0, 0⟩ = p := by
    rw [hs3]; show cut32 (p + 0) = p
    unfold cut32; have := hp.1; have := hp.2; omega
  have f3 : s3.code = C ∧ s3.fin = 0 ∧ s3.pc = 3 ∧ s3.mem = zeros N ∧ s3.out = [] ∧ s3.rg 3 = v := by rw [hs3]; exact ⟨rfl, rfl, rfl, rfl, rfl, rfl⟩
  obtain ⟨f1, f2, f4, f5, f6, f7⟩ := f3
  have hN : s3.mem.length = N := by rw [f5]; simp [zeros]
  have e9 : (St.new C N [9]).stepN 9 = s3.step.stepN 5 := by
    show (St.new C N [9]).step.step.step.step.stepN 5 = _
    rw [e3]
  rw [e9] at hml ⊢
  refine ⟨_, rfl, by rw [hml]; simp [St.new, zeros], fun h => ?_, fun h h2 => ?_, fun h h2 h3 => ?_⟩
  · rcases h with h | ⟨h, hst⟩
    · cases st
      · have e4 : s3.step = { ({ s3 with inp := s3.inp.tail }.told 3 (s3.inp.headD 0)) with pc := 4 } := by
          rw [stp _ 3 _ rfl f1 f2 f4, exec_move rfl (s' := { s3 with inp := s3.inp.tail }.told 3 (s3.inp.headD 0)), f4]; rfl
          unfold St.move; rw [hpl, if_pos h]; rfl
        rw [e4, hlt _ (by exact f1) (by exact f2) rfl]
      · have e4 : s3.step = { s3 with out := s3.out ++ [s3.rg 3 % 256], pc := 4 } := by
          rw [stp _ 3 _ rfl f1 f2 f4, exec_move rfl (s' := { s3 with out := s3.out ++ [s3.rg 3 % 256] }), f4]; rfl
          unfold St.move; rw [hpl, if_pos h]; rfl
        rw [e4, hlt _ (by exact f1) (by exact f2) rfl]
    · subst hst
      have e4 : s3.step = { (s3.told 3 (if s3.inp = [] then 1 else 0)) with pc := 4 } := by
        rw [stp _ 3 _ rfl f1 f2 f4, exec_move rfl (s' := s3.told 3 (if s3.inp = [] then 1 else 0)), f4]; rfl
        unfold St.move; rw [hpl, if_neg (by simp), if_neg (show ¬ p = 4294967232 by omega), if_pos ⟨h, rfl⟩]
      rw [e4, hlt _ (by exact f1) (by exact f2) rfl]
  · have e4 : s3.step = s3.fault := by
      rw [stp _ 3 _ rfl f1 f2 f4, exec_move0 rfl]
      unfold St.move
      rw [hpl, if_neg (by simp), if_neg (fun e => h (.inl e)), if_neg (fun e => h (.inr e)), if_pos (by rw [hN]; exact h2)]
    rw [e4, St.stepN_stop _ (by show (2 : Int) ≠ 0; decide)]
    exact ⟨rfl, rfl, f6⟩
  · cases st
    · have e4 : s3.step = { (s3.told 3 (s3.mem.getD (p / 4).toNat 0)) with pc := 4 } := by
        rw [stp _ 3 _ rfl f1 f2 f4, exec_move rfl (s' := s3.told 3 (s3.mem.getD (p / 4).toNat 0)), f4]; rfl
        unfold St.move
        rw [hpl, if_neg (by simp), if_neg (fun e => h (.inl e)), if_neg (fun e => h (.inr e)), if_neg (by rw [hN]; omega)]; rfl
      rw [e4, hlt _ (by exact f1) (by exact f2) rfl]
      refine ⟨rfl, ?_⟩
      show s3.mem.getD (p / 4).toNat 0 = 0
      rw [f5]; simp only [zeros, List.getD_eq_getElem?_getD, List.getElem?_replicate]; split <;> rfl
    · have e4 : s3.step = { s3 with mem := s3.mem.set (p / 4).toNat (s3.rg 3), pc := 4 } := by
        rw [stp _ 3 _ rfl f1 f2 f4, exec_move rfl (s' := { s3 with mem := s3.mem.set (p / 4).toNat (s3.rg 3) }), f4]; rfl
        unfold St.move
        rw [hpl, if_neg (by simp), if_neg (fun e => h (.inl e)), if_neg (fun e => h (.inr e)), if_neg (by rw [hN]; omega)]; rfl
      rw [e4, hlt _ (by exact f1) (by exact f2) rfl]
      refine ⟨rfl, ?_⟩
      show (s3.mem.set (p / 4).toNat (s3.rg 3)).getD (p / 4).toNat 0 = v
      have : (p / 4).toNat < s3.mem.length := by rw [hN]; have := hp.1; omega
      rw [f7]; simp [List.getD_eq_getElem?_getD, this]
end Go.Proofs.Ytflinbfobadheaa
