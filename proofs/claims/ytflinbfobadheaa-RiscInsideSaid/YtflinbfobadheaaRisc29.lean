/- How known code runs, in plain Lean: words are laid, added, subtracted. -/
import Derived.Test.YtflinbfobadheaaRisc27
namespace Go.Proofs.Ytflinbfobadheaa
open Go.RowKit Go.Waf
set_option maxRecDepth 100000
set_option linter.unusedVariables false

theorem exec_val {s s1 : St} {i : Ins} {x : Int} (hf : i.f < 2) (h : opVal s i (s.rg i.b) (s.second i) = some (x, s1)) : s.exec i = { s1.told i.a x with pc := s.pc + 1 } := by
  refine exec_op hf ?_
  unfold St.operate; rw [h]; rfl
theorem cut_hi (a : Int) (h0 : 0 ≤ a) (h1 : a < 4294967296) : cut32 (a / 65536 * 65536) = a / 65536 * 65536 := by unfold cut32; omega
theorem or_hilo (a : Int) (h0 : 0 ≤ a) (h1 : a < 4294967296) : bits .or .u32 (cut32 (a / 65536 * 65536)) (a % 65536) = a := by
  rw [cut_hi a h0 h1, or_apart 16 _ _ (by omega) (by omega) (by simp) (by omega) (by simp; omega) (by omega)]
  omega
def flagsL (a b : Int) : List Ins := [⟨1, true, false, 1, 0, 0, 0, a / 65536⟩, ⟨1, false, false, 1, 1, 0, 6, a % 65536⟩, ⟨1, true, false, 2, 0, 0, 0, b / 65536⟩, ⟨1, false, false, 2, 2, 0, 6, b % 65536⟩, ⟨0, false, false, 3, 1, 2, 8, 0⟩, ⟨0, false, false, 4, 1, 2, 9, 0⟩]
theorem flags_right (a b : Int) (ha : W32 a) (hb : W32 b) : ∀ i ∈ flagsL a b, Right i := by
  obtain ⟨a0, a1⟩ := ha
  obtain ⟨b0, b1⟩ := hb
  intro i hi
  simp only [flagsL, List.mem_cons, List.not_mem_nil, or_false] at hi
  rcases hi with rfl | rfl | rfl | rfl | rfl | rfl
  · exact right1 (by omega) (by omega) (by omega) (by omega) (by omega)
  · exact right1 (by omega) (by omega) (by omega) (by omega) (by omega)
  · exact right1 (by omega) (by omega) (by omega) (by omega) (by omega)
  · exact right1 (by omega) (by omega) (by omega) (by omega) (by omega)
  · exact right0 (by omega) (by omega) (by omega) (by omega)
  · exact right0 (by omega) (by omega) (by omega) (by omega)
def flagsC (a b : Int) : List Int := (flagsL a b).map encW
theorem flags_step {a b : Int} (ha : W32 a) (hb : W32 b) {s : St} (k : Nat) (i : Ins) (hi : (flagsL a b)[k]? = some i) (hc : s.code = flagsC a b) (hf : s.fin = 0) (hpc : s.pc = k) : s.step = s.exec i :=
  step_at hf hpc (by rw [hc, flagsC, List.getElem?_map, hi]; rfl) (flags_right a b ha hb i (List.mem_of_getElem? hi))
theorem flags_run (a b : Int) (ha : W32 a) (hb : W32 b) :
    ∃ s5 : St, (St.new (flagsC a b) 0 []).stepN 5 = s5 ∧ s5.r.getD 3 0 = (a + b) % 4294967296 ∧ s5.n = decide (2147483648 ≤ (a + b) % 4294967296) ∧ s5.z = ((a + b) % 4294967296 == 0) ∧ s5.c = decide (4294967296 ≤ a + b) ∧ s5.v = over (wrap32 a + wrap32 b) ∧ s5.out = [] ∧
      s5.step.r.getD 4 0 = (a - b) % 4294967296 ∧ s5.step.n = decide (2147483648 ≤ (a - b) % 4294967296) ∧ s5.step.z = ((a - b) % 4294967296 == 0) ∧ s5.step.c = decide (a < b) ∧ s5.step.v = over (wrap32 a - wrap32 b) := by
  obtain ⟨C, hC⟩ : ∃ C, C = flagsC a b := ⟨_, rfl⟩
  have st := fun s k i hi hc hf hpc => @flags_step a b ha hb s k i hi hc hf hpc
  rw [← hC] at st ⊢
  have hoa := or_hilo a ha.1 ha.2
  have hob := or_hilo b hb.1 hb.2
  obtain ⟨ah, hah⟩ : ∃ x, x = a / 65536 := ⟨_, rfl⟩
  obtain ⟨al, hal⟩ : ∃ x, x = a % 65536 := ⟨_, rfl⟩
  obtain ⟨bh, hbh⟩ : ∃ x, x = b / 65536 := ⟨_, rfl⟩
  obtain ⟨bl, hbl⟩ : ∃ x, x = b % 65536 := ⟨_, rfl⟩
  simp only [flagsL, ← hah, ← hal, ← hbh, ← hbl] at st hoa hob
  have e1 : (St.new C 0 []).step = ⟨C, [], [], [0, cut32 (ah * 65536), 0, 0, 0, 0, 0, 0, 0, 0, 0, 0, 0, 0, 0, 0], 0, decide (2147483648 ≤ cut32 (ah * 65536)), cut32 (ah * 65536) == 0, false, false, 1, [], 0, 0⟩ := by
    rw [st _ 0 _ rfl rfl rfl rfl, exec_val (x := cut32 (ah * 65536)) (s1 := St.new C 0 []) (by show (1 : Int) < 2; decide) rfl]; rfl
  have e2 : (St.new C 0 []).step.step = ⟨C, [], [], [0, a, 0, 0, 0, 0, 0, 0, 0, 0, 0, 0, 0, 0, 0, 0], 0, decide (2147483648 ≤ a), a == 0, false, false, 2, [], 0, 0⟩ := by
    rw [e1, st _ 1 _ rfl rfl rfl rfl, exec_val (x := bits .or .u32 (cut32 (ah * 65536)) al) (s1 := ⟨C, [], [], [0, cut32 (ah * 65536), 0, 0, 0, 0, 0, 0, 0, 0, 0, 0, 0, 0, 0, 0], 0, decide (2147483648 ≤ cut32 (ah * 65536)), cut32 (ah * 65536) == 0, false, false, 1, [], 0, 0⟩) (by show (1 : Int) < 2; decide) rfl, hoa]; rfl
  have e3 : (St.new C 0 []).step.step.step = ⟨C, [], [], [0, a, cut32 (bh * 65536), 0, 0, 0, 0, 0, 0, 0, 0, 0, 0, 0, 0, 0], 0, decide (2147483648 ≤ cut32 (bh * 65536)), cut32 (bh * 65536) == 0, false, false, 3, [], 0, 0⟩ := by
    rw [e2, st _ 2 _ rfl rfl rfl rfl, exec_val (x := cut32 (bh * 65536)) (s1 := ⟨C, [], [], [0, a, 0, 0, 0, 0, 0, 0, 0, 0, 0, 0, 0, 0, 0, 0], 0, decide (2147483648 ≤ a), a == 0, false, false, 2, [], 0, 0⟩) (by show (1 : Int) < 2; decide) rfl]; rfl
  have e4 : (St.new C 0 []).step.step.step.step = ⟨C, [], [], [0, a, b, 0, 0, 0, 0, 0, 0, 0, 0, 0, 0, 0, 0, 0], 0, decide (2147483648 ≤ b), b == 0, false, false, 4, [], 0, 0⟩ := by
    rw [e3, st _ 3 _ rfl rfl rfl rfl, exec_val (x := bits .or .u32 (cut32 (bh * 65536)) bl) (s1 := ⟨C, [], [], [0, a, cut32 (bh * 65536), 0, 0, 0, 0, 0, 0, 0, 0, 0, 0, 0, 0, 0], 0, decide (2147483648 ≤ cut32 (bh * 65536)), cut32 (bh * 65536) == 0, false, false, 3, [], 0, 0⟩) (by show (1 : Int) < 2; decide) rfl, hob]; rfl
  have e5 : (St.new C 0 []).step.step.step.step.step = ⟨C, [], [], [0, a, b, cut32 (a + b + 0), 0, 0, 0, 0, 0, 0, 0, 0, 0, 0, 0, 0], 0, decide (2147483648 ≤ cut32 (a + b + 0)), cut32 (a + b + 0) == 0, decide (4294967296 ≤ a + b + 0), over (wrap32 a + wrap32 b + 0), 5, [], 0, 0⟩ := by
    rw [e4, st _ 4 _ rfl rfl rfl rfl, exec_val (x := cut32 (a + b + 0)) (s1 := ⟨C, [], [], [0, a, b, 0, 0, 0, 0, 0, 0, 0, 0, 0, 0, 0, 0, 0], 0, decide (2147483648 ≤ b), b == 0, decide (4294967296 ≤ a + b + 0), over (wrap32 a + wrap32 b + 0), 4, [], 0, 0⟩) (by show (0 : Int) < 2; decide) rfl]; rfl
  have e6 : (St.new C 0 []).step.step.step.step.step.step = ⟨C, [], [], [0, a, b, cut32 (a + b + 0), cut32 (a - b - 0), 0, 0, 0, 0, 0, 0, 0, 0, 0, 0, 0], 0, decide (2147483648 ≤ cut32 (a - b - 0)), cut32 (a - b - 0) == 0, decide (a < b + 0), over (wrap32 a - wrap32 b - 0), 6, [], 0, 0⟩ := by
    rw [e5, st _ 5 _ rfl rfl rfl rfl, exec_val (x := cut32 (a - b - 0)) (s1 := ⟨C, [], [], [0, a, b, cut32 (a + b + 0), 0, 0, 0, 0, 0, 0, 0, 0, 0, 0, 0, 0], 0, decide (2147483648 ≤ cut32 (a + b + 0)), cut32 (a + b + 0) == 0, decide (a < b + 0), over (wrap32 a - wrap32 b - 0), 5, [], 0, 0⟩) (by show (0 : Int) < 2; decide) rfl]; rfl
  refine ⟨_, e5, ?_, ?_, ?_, ?_, ?_, rfl, ?_, ?_, ?_, ?_, ?_⟩
  · show cut32 (a + b + 0) = _; rw [Int.add_zero]; rfl
  · show decide (2147483648 ≤ cut32 (a + b + 0)) = _; rw [Int.add_zero]; rfl
  · show (cut32 (a + b + 0) == 0) = _; rw [Int.add_zero]; rfl
  · show decide (4294967296 ≤ a + b + 0) = _; rw [Int.add_zero]
  · show over (wrap32 a + wrap32 b + 0) = _; rw [Int.add_zero]
  all_goals rw [← e5, e6]
  · show cut32 (a - b - 0) = _; rw [Int.sub_zero]; rfl
  · show decide (2147483648 ≤ cut32 (a - b - 0)) = _; rw [Int.sub_zero]; rfl
  · show (cut32 (a - b - 0) == 0) = _; rw [Int.sub_zero]; rfl
  · show decide (a < b + 0) = _; rw [Int.add_zero]
  · show over (wrap32 a - wrap32 b - 0) = _; rw [Int.sub_zero]
end Go.Proofs.Ytflinbfobadheaa
