/- How known code runs, in plain Lean: a call and back. -/
import Derived.Test.YtflinbfobadheaaRisc29
namespace Go.Proofs.Ytflinbfobadheaa
open Go.RowKit Go.Waf
set_option maxRecDepth 100000
set_option linter.unusedVariables false

def trapI : Ins := ⟨3, false, true, 7, 0, 12, 0, 9⟩
def callL (n : Int) (k : Nat) : List Ins := [⟨3, true, true, 7, 0, 0, 0, (k : Int) + 1⟩, ⟨3, false, true, 7, 0, 12, 0, 0⟩] ++ List.replicate k trapI ++ [⟨1, false, false, 5, 0, 0, 0, n⟩, ⟨3, false, false, 7, 0, 15, 0, 0⟩]
theorem call_right (n : Int) (k : Nat) (hn : 0 ≤ n ∧ n ≤ 255) (hk : k < 20) : ∀ i ∈ callL n k, Right i := by
  intro i hi
  simp only [callL, List.mem_append, List.mem_cons, List.not_mem_nil, or_false] at hi
  rcases hi with ((rfl | rfl) | hi) | rfl | rfl
  · exact right3 (by omega) (by omega) (by omega)
  · exact right4 (by omega) (by omega) (by omega) (by omega)
  · rw [List.eq_of_mem_replicate hi]; exact right4 (by omega) (by omega) (by omega) (by omega)
  · exact right1 (by omega) (by omega) (by omega) (by omega) (by omega)
  · exact right4 (by omega) (by omega) (by omega) (by omega)
def callC (n : Int) (k : Nat) : List Int := (callL n k).map encW
theorem call_len (n : Int) (k : Nat) : (callL n k).length = k + 4 := by simp [callL]
theorem call_at0 (n : Int) (k : Nat) : (callL n k)[0]? = some ⟨3, true, true, 7, 0, 0, 0, (k : Int) + 1⟩ := by simp [callL]
theorem call_at1 (n : Int) (k : Nat) : (callL n k)[1]? = some ⟨3, false, true, 7, 0, 12, 0, 0⟩ := by simp [callL]
theorem call_at2 (n : Int) (k : Nat) : (callL n k)[k + 2]? = some ⟨1, false, false, 5, 0, 0, 0, n⟩ := by
  unfold callL
  rw [List.getElem?_append_right (by simp)]
  simp
theorem call_at3 (n : Int) (k : Nat) : (callL n k)[k + 3]? = some ⟨3, false, false, 7, 0, 15, 0, 0⟩ := by
  unfold callL
  rw [List.getElem?_append_right (by simp)]
  simp
theorem call_step {n : Int} {k : Nat} (hn : 0 ≤ n ∧ n ≤ 255) (hk : k < 20) {s : St} (j : Nat) (i : Ins) (hi : (callL n k)[j]? = some i) (hc : s.code = callC n k) (hf : s.fin = 0) (hpc : s.pc = j) : s.step = s.exec i :=
  step_at hf hpc (by rw [hc, callC, List.getElem?_map, hi]; rfl) (call_right n k hn hk i (List.mem_of_getElem? hi))
theorem call_run (n : Int) (k : Nat) (hn : 0 ≤ n ∧ n ≤ 255) (hk : k < 20) :
    ∃ s : St, (St.new (callC n k) 0 []).stepN 10 = s ∧ s.fin = 1 ∧ s.trap = 0 ∧ s.out = [] ∧ s.r.getD 5 0 = n ∧ s.r.getD 15 0 = 1 ∧ s.pc = 1 := by
  obtain ⟨C, hC⟩ : ∃ C, C = callC n k := ⟨_, rfl⟩
  have st := fun s j i hi hc hf hpc => @call_step n k hn hk s j i hi hc hf hpc
  rw [← hC] at st ⊢
  have e1 : (St.new C 0 []).step = ⟨C, [], [], [0, 0, 0, 0, 0, 0, 0, 0, 0, 0, 0, 0, 0, 0, 0, 1], 0, false, false, false, false, (k : Int) + 2, [], 0, 0⟩ := by
    rw [st _ 0 _ (call_at0 n k) rfl rfl rfl, exec_br rfl (t := (k : Int) + 2) (s' := ⟨C, [], [], [0, 0, 0, 0, 0, 0, 0, 0, 0, 0, 0, 0, 0, 0, 0, 1], 0, false, false, false, false, 0, [], 0, 0⟩) ?_ rfl]
    show (if (true == decide ((7 : Int) < 8)) = false then _ else _) = _
    rw [if_neg (by decide), if_neg (by simp)]
    simp only [if_true]
    rw [if_neg (by show ¬ ((0 : Int) + 1 + ((k : Int) + 1) < 0 ∨ 1048576 < (0 : Int) + 1 + ((k : Int) + 1)); omega)]
    congr 1
    refine Prod.ext ?_ rfl
    show (0 : Int) + 1 + ((k : Int) + 1) = (k : Int) + 2
    omega
  have e2 : (St.new C 0 []).step.step = ⟨C, [], [], [0, 0, 0, 0, 0, n, 0, 0, 0, 0, 0, 0, 0, 0, 0, 1], 0, decide (2147483648 ≤ n), n == 0, false, false, (k : Int) + 3, [], 0, 0⟩ := by
    rw [e1, st _ (k + 2) _ (call_at2 n k) rfl rfl (by push_cast; rfl), exec_val (x := n) (s1 := ⟨C, [], [], [0, 0, 0, 0, 0, 0, 0, 0, 0, 0, 0, 0, 0, 0, 0, 1], 0, false, false, false, false, (k : Int) + 2, [], 0, 0⟩) (by show (1 : Int) < 2; decide) rfl]
    show (⟨_, _, _, _, _, _, _, _, _, (k : Int) + 2 + 1, _, _, _⟩ : St) = _
    rw [show (k : Int) + 2 + 1 = (k : Int) + 3 by omega]; rfl
  have e3 : (St.new C 0 []).step.step.step = ⟨C, [], [], [0, 0, 0, 0, 0, n, 0, 0, 0, 0, 0, 0, 0, 0, 0, 1], 0, decide (2147483648 ≤ n), n == 0, false, false, 1, [], 0, 0⟩ := by
    rw [e2, st _ (k + 3) _ (call_at3 n k) rfl rfl (by push_cast; rfl), exec_br rfl (t := 1) (s' := ⟨C, [], [], [0, 0, 0, 0, 0, n, 0, 0, 0, 0, 0, 0, 0, 0, 0, 1], 0, decide (2147483648 ≤ n), n == 0, false, false, (k : Int) + 3, [], 0, 0⟩) rfl rfl]
  have e4 : (St.new C 0 []).step.step.step.step = ⟨C, [], [], [0, 0, 0, 0, 0, n, 0, 0, 0, 0, 0, 0, 0, 0, 0, 1], 0, decide (2147483648 ≤ n), n == 0, false, false, 1, [], 1, 0⟩ := by
    rw [e3, st _ 1 _ (call_at1 n k) rfl rfl rfl, exec_end rfl (t := 2) (s' := ⟨C, [], [], [0, 0, 0, 0, 0, n, 0, 0, 0, 0, 0, 0, 0, 0, 0, 1], 0, decide (2147483648 ≤ n), n == 0, false, false, 1, [], 1, 0⟩) rfl (by show (1 : Int) ≠ 0; decide)]
  refine ⟨_, rfl, ?_⟩
  show ((St.new C 0 []).step.step.step.step.stepN 6).fin = 1 ∧ ((St.new C 0 []).step.step.step.step.stepN 6).trap = 0 ∧ ((St.new C 0 []).step.step.step.step.stepN 6).out = [] ∧ ((St.new C 0 []).step.step.step.step.stepN 6).r.getD 5 0 = n ∧ ((St.new C 0 []).step.step.step.step.stepN 6).r.getD 15 0 = 1 ∧ ((St.new C 0 []).step.step.step.step.stepN 6).pc = 1
  rw [e4, St.stepN_stop _ (by show (1 : Int) ≠ 0; decide)]
  exact ⟨rfl, rfl, rfl, rfl, rfl, rfl⟩
end Go.Proofs.Ytflinbfobadheaa
