/- How known code runs, in plain Lean: a difference, and a branch behind it. -/
import Derived.Test.YtflinbfobadheaaRisc29
namespace Go.Proofs.Ytflinbfobadheaa
open Go.RowKit Go.Waf
set_option maxRecDepth 100000
set_option linter.unusedVariables false

def brL (a b k : Int) : List Ins := [⟨1, false, decide (a < 0), 1, 0, 0, 0, a % 65536⟩, ⟨1, false, decide (b < 0), 2, 0, 0, 0, b % 65536⟩, ⟨0, false, false, 3, 1, 2, 9, 0⟩, ⟨3, true, false, k, 0, 0, 0, 1⟩, ⟨3, false, true, 7, 0, 12, 0, 1⟩, ⟨3, false, true, 7, 0, 12, 0, 2⟩]
theorem br_right (a b k : Int) (hk : 0 ≤ k ∧ k < 16) : ∀ i ∈ brL a b k, Right i := by
  intro i hi
  simp only [brL, List.mem_cons, List.not_mem_nil, or_false] at hi
  rcases hi with rfl | rfl | rfl | rfl | rfl | rfl
  · exact right1 (by omega) (by omega) (by omega) (by omega) (by omega)
  · exact right1 (by omega) (by omega) (by omega) (by omega) (by omega)
  · exact right0 (by omega) (by omega) (by omega) (by omega)
  · exact right3 hk (by omega) (by omega)
  · exact right4 (by omega) (by omega) (by omega) (by omega)
  · exact right4 (by omega) (by omega) (by omega) (by omega)
def brC (a b k : Int) : List Int := (brL a b k).map encW
theorem br_step {a b k : Int} (hk : 0 ≤ k ∧ k < 16) {s : St} (j : Nat) (i : Ins) (hi : (brL a b k)[j]? = some i) (hc : s.code = brC a b k) (hf : s.fin = 0) (hpc : s.pc = j) : s.step = s.exec i :=
  step_at hf hpc (by rw [hc, brC, List.getElem?_map, hi]; rfl) (br_right a b k hk i (List.mem_of_getElem? hi))
/-- What a condition of eight is, behind a difference. -/
def brE (a b j : Int) : Bool := if j = 0 then decide (a - b < 0) else if j = 1 then a == b else if j = 2 then decide (a % 4294967296 < b % 4294967296) else if j = 3 then false else if j = 4 then decide (a % 4294967296 ≤ b % 4294967296) else if j = 5 then decide (a < b) else if j = 6 then decide (a ≤ b) else true
theorem br_second (a : Int) (ha : -32768 ≤ a ∧ a ≤ 32767) : (if decide (a < 0) = true then cut32 (a % 65536 - 65536) else a % 65536) = a % 4294967296 := by
  by_cases h : a < 0
  · simp only [h, decide_true, if_true]; unfold cut32; omega
  · simp [h]; omega
theorem br_run (a b k : Int) (ha : -32768 ≤ a ∧ a ≤ 32767) (hb : -32768 ≤ b ∧ b ≤ 32767) (hk : 0 ≤ k ∧ k < 16) :
    ((St.new (brC a b k) 0 []).stepN 9).fin = 2 ∧ ((St.new (brC a b k) 0 []).stepN 9).trap = (if (brE a b (k % 8) == decide (k < 8)) then 2 else 1) := by
  obtain ⟨C, hC⟩ : ∃ C, C = brC a b k := ⟨_, rfl⟩
  have st := fun s j i hi hc hf hpc => @br_step a b k hk s j i hi hc hf hpc
  rw [← hC] at st ⊢
  have hsa := br_second a ha
  have hsb := br_second b hb
  obtain ⟨am, ham⟩ : ∃ x, x = a % 65536 := ⟨_, rfl⟩
  obtain ⟨bm, hbm⟩ : ∃ x, x = b % 65536 := ⟨_, rfl⟩
  obtain ⟨an, han⟩ : ∃ x, x = decide (a < 0) := ⟨_, rfl⟩
  obtain ⟨bn, hbn⟩ : ∃ x, x = decide (b < 0) := ⟨_, rfl⟩
  simp only [brL, ← ham, ← hbm, ← han, ← hbn] at st
  rw [← ham, ← han] at hsa
  rw [← hbm, ← hbn] at hsb
  obtain ⟨U, hU⟩ : ∃ U, U = a % 4294967296 := ⟨_, rfl⟩
  obtain ⟨V, hV⟩ : ∃ V, V = b % 4294967296 := ⟨_, rfl⟩
  rw [← hU] at hsa
  rw [← hV] at hsb
  have e1 : (St.new C 0 []).step = ⟨C, [], [], [0, U, 0, 0, 0, 0, 0, 0, 0, 0, 0, 0, 0, 0, 0, 0], 0, decide (2147483648 ≤ U), U == 0, false, false, 1, [], 0, 0⟩ := by
    rw [st _ 0 _ rfl rfl rfl rfl, exec_val (x := if an = true then cut32 (am - 65536) else am) (s1 := St.new C 0 []) (by show (1 : Int) < 2; decide) rfl, hsa]; rfl
  have e2 : (St.new C 0 []).step.step = ⟨C, [], [], [0, U, V, 0, 0, 0, 0, 0, 0, 0, 0, 0, 0, 0, 0, 0], 0, decide (2147483648 ≤ V), V == 0, false, false, 2, [], 0, 0⟩ := by
    rw [e1, st _ 1 _ rfl rfl rfl rfl, exec_val (x := if bn = true then cut32 (bm - 65536) else bm) (s1 := ⟨C, [], [], [0, U, 0, 0, 0, 0, 0, 0, 0, 0, 0, 0, 0, 0, 0, 0], 0, decide (2147483648 ≤ U), U == 0, false, false, 1, [], 0, 0⟩) (by show (1 : Int) < 2; decide) rfl, hsb]; rfl
  obtain ⟨s3, hs3⟩ : ∃ s3 : St, s3 = ⟨C, [], [], [0, U, V, cut32 (U - V - 0), 0, 0, 0, 0, 0, 0, 0, 0, 0, 0, 0, 0], 0, decide (2147483648 ≤ cut32 (U - V - 0)), cut32 (U - V - 0) == 0, decide (U < V + 0), over (wrap32 U - wrap32 V - 0), 3, [], 0, 0⟩ := ⟨_, rfl⟩
  have e3 : (St.new C 0 []).step.step.step = s3 := by
    rw [e2, st _ 2 _ rfl rfl rfl rfl, exec_val (x := cut32 (U - V - 0)) (s1 := ⟨C, [], [], [0, U, V, 0, 0, 0, 0, 0, 0, 0, 0, 0, 0, 0, 0, 0], 0, decide (2147483648 ≤ V), V == 0, decide (U < V + 0), over (wrap32 U - wrap32 V - 0), 2, [], 0, 0⟩) (by show (0 : Int) < 2; decide) rfl, hs3]; rfl
  have f3 : s3.code = C ∧ s3.fin = 0 ∧ s3.pc = 3 := by rw [hs3]; exact ⟨rfl, rfl, rfl⟩
  have wU : wrap32 U = a := by rw [hU]; unfold wrap32; omega
  have wV : wrap32 V = b := by rw [hV]; unfold wrap32; omega
  have hn : s3.n = decide (a - b < 0) := by
    rw [hs3]; show decide (2147483648 ≤ cut32 (U - V - 0)) = _
    rw [decide_eq_decide]; unfold cut32; omega
  have hz : s3.z = (a == b) := by
    rw [hs3]; show (cut32 (U - V - 0) == 0) = _
    rw [Bool.eq_iff_iff, beq_iff_eq, beq_iff_eq]; unfold cut32; omega
  have hcf : s3.c = decide (U < V) := by rw [hs3]; show decide (U < V + 0) = _; rw [Int.add_zero]
  have hv : s3.v = false := by
    rw [hs3]; show over (wrap32 U - wrap32 V - 0) = _
    rw [wU, wV]; unfold over; simp; unfold wrap32; omega
  have hbase : s3.base k = brE a b (k % 8) := by
    unfold St.base brE
    rw [hn, hz, hcf, hv, ← hU, ← hV]
    rcases (by omega : k % 8 = 0 ∨ k % 8 = 1 ∨ k % 8 = 2 ∨ k % 8 = 3 ∨ k % 8 = 4 ∨ k % 8 = 5 ∨ k % 8 = 6 ∨ k % 8 = 7) with h | h | h | h | h | h | h | h <;> simp only [h] <;> simp
    · rw [Bool.eq_iff_iff]; simp; omega
    · omega
    · rw [Bool.eq_iff_iff]; simp; omega
  have hh : s3.holds k = (brE a b (k % 8) == decide (k < 8)) := by unfold St.holds; rw [hbase]
  show ((St.new C 0 []).step.step.step.stepN 6).fin = 2 ∧ ((St.new C 0 []).step.step.step.stepN 6).trap = _
  rw [e3, ← hh]
  obtain ⟨f1, f2, f4⟩ := f3
  cases hH : s3.holds k
  · have e4 : s3.step = { s3 with pc := 4 } := by
      rw [st _ 3 _ rfl f1 f2 f4, exec_br rfl (t := 4) (s' := s3) (by unfold St.branch; rw [hH, f4]; rfl) f2]
    have e5 : s3.step.step = { s3 with pc := 4, fin := 2, trap := 1 } := by
      rw [e4, st _ 4 _ rfl (by exact f1) (by exact f2) rfl, exec_end rfl (t := 5) (s' := { s3 with pc := 4, fin := 2, trap := 1 }) rfl (by show (2 : Int) ≠ 0; decide)]
    show (s3.step.step.stepN 4).fin = 2 ∧ (s3.step.step.stepN 4).trap = _
    rw [e5, St.stepN_stop _ (by show (2 : Int) ≠ 0; decide)]; exact ⟨rfl, rfl⟩
  · have e4 : s3.step = { s3 with pc := 5 } := by
      rw [st _ 3 _ rfl f1 f2 f4, exec_br rfl (t := 5) (s' := s3) (by unfold St.branch; rw [hH, f4]; rfl) f2]
    have e5 : s3.step.step = { s3 with pc := 5, fin := 2, trap := 2 } := by
      rw [e4, st _ 5 _ rfl (by exact f1) (by exact f2) rfl, exec_end rfl (t := 6) (s' := { s3 with pc := 5, fin := 2, trap := 2 }) rfl (by show (2 : Int) ≠ 0; decide)]
    show (s3.step.step.stepN 4).fin = 2 ∧ (s3.step.step.stepN 4).trap = _
    rw [e5, St.stepN_stop _ (by show (2 : Int) ≠ 0; decide)]; exact ⟨rfl, rfl⟩
end Go.Proofs.Ytflinbfobadheaa
