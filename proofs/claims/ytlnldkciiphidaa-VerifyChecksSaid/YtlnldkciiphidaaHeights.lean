/- How many operands there are ahead of each instruction: the plain law behind both programs, with no program in sight. -/
import Derived.Test.YtlnldkciiphidaaVerify2
namespace Go.Proofs.Ytlnldkciiphidaa
open Go.RowKit Go.Waf
set_option linter.unusedVariables false

def effT : List (Int × Int) := [(0,0),(0,1),(1,2),(1,0),(2,2),(0,1),(1,1),(2,0),(2,0),(2,1),(2,1),(2,1),(2,1),(2,1),(1,1),(2,1),(2,1),(2,1),(1,1),(2,1),(2,1),(2,1),(2,1),(2,1),(2,1),(0,0),(1,0),(0,0),(0,0),(0,0),(0,0),(0,1),(0,1),(1,0)]
def takesC (op : Int) : Int := (effT.getD op.toNat (0, 0)).1
def leavesC (op : Int) : Int := (effT.getD op.toNat (0, 0)).2
theorem effT_le : ∀ i : Nat, 0 ≤ (effT.getD i (0, 0)).1 ∧ (effT.getD i (0, 0)).1 ≤ 2 ∧ 0 ≤ (effT.getD i (0, 0)).2 ∧ (effT.getD i (0, 0)).2 ≤ 2 := by
  intro i
  by_cases h : i < 34
  · have H : ∀ j : Fin 34, 0 ≤ (effT.getD j.1 (0, 0)).1 ∧ (effT.getD j.1 (0, 0)).1 ≤ 2 ∧ 0 ≤ (effT.getD j.1 (0, 0)).2 ∧ (effT.getD j.1 (0, 0)).2 ≤ 2 := by decide
    exact H ⟨i, h⟩
  · have e : effT.getD i (0, 0) = (0, 0) := by
      rw [List.getD_eq_getElem?_getD, List.getElem?_eq_none (by simp [effT]; omega)]; rfl
    rw [e]; decide
theorem takes_le (op : Int) : 0 ≤ takesC op ∧ takesC op ≤ 2 := ⟨(effT_le _).1, (effT_le _).2.1⟩
theorem leaves_le (op : Int) : 0 ≤ leavesC op ∧ leavesC op ≤ 2 := ⟨(effT_le _).2.2.1, (effT_le _).2.2.2⟩
def jumpsC (op : Int) : Bool := op == 25 || op == 26
/-- How many there are behind an instruction. -/
def thenC (V : Nat → Int) (i : Nat) (h : Int) : Int := h - takesC (V i) + leavesC (V i)

inductive Hi (V N : Nat → Int) : Nat → Int → Prop
  | start : Hi V N 0 0
  | jump {i : Nat} {h : Int} : Hi V N i h → takesC (V i) ≤ h → jumpsC (V i) = true → Hi V N (N i).toNat (thenC V i h)
  | next {i : Nat} {h : Int} : Hi V N i h → takesC (V i) ≤ h → endsC (V i) = false → Hi V N (i + 1) (thenC V i h)

theorem Hi.nonneg {V N : Nat → Int} {i : Nat} {h : Int} (hh : Hi V N i h) : 0 ≤ h := by
  cases hh with
  | start => omega
  | jump a b c => have := leaves_le (V ‹Nat›); unfold thenC; omega
  | next a b c => have := leaves_le (V ‹Nat›); unfold thenC; omega

def Fine (V N : Nat → Int) : Prop := ∀ i h, Hi V N i h → takesC (V i) ≤ h ∧ h ≤ 1000 ∧ ∀ h', Hi V N i h' → h' = h
def Okay (V N : Nat → Int) (n : Nat) : Prop := 0 < n ∧ firstBad V N n = n

theorem okay_at {V N : Nat → Int} {n : Nat} (h : Okay V N n) {i : Nat} (hi : i < n) : wrongC (V i) (N i) n = false ∧ (i + 1 = n → endsC (V i) = true) := by
  have hb := firstBad_before V N n i (by rw [h.2]; exact hi)
  unfold badAt at hb
  simp only [Bool.or_eq_false_iff, Bool.and_eq_false_iff, decide_eq_false_iff_not, Bool.not_eq_false'] at hb
  refine ⟨hb.1, fun e => ?_⟩
  rcases hb.2 with h2 | h2
  · exact absurd e h2
  · simpa using h2
theorem okay_op {V N : Nat → Int} {n : Nat} (h : Okay V N n) {i : Nat} (hi : i < n) : 0 ≤ V i ∧ V i < 34 := by
  have := (okay_at h hi).1
  unfold wrongC at this
  simp only [Bool.or_eq_false_iff, Bool.not_eq_false'] at this
  have h1 := this.1.1
  unfold rightC at h1
  simp only [Bool.and_eq_true, decide_eq_true_eq] at h1
  exact ⟨h1.1.1, h1.1.2⟩
theorem okay_jump {V N : Nat → Int} {n : Nat} (h : Okay V N n) {i : Nat} (hi : i < n) (hj : jumpsC (V i) = true) : 0 ≤ N i ∧ N i < n := by
  have := (okay_at h hi).1
  unfold wrongC at this
  simp only [Bool.or_eq_false_iff, Bool.not_eq_false'] at this
  have h1 := this.1.2
  unfold leadsC at h1
  unfold jumpsC at hj
  simp only [Bool.or_eq_true, beq_iff_eq] at hj
  simp only [Bool.and_eq_false_iff, Bool.or_eq_false_iff, beq_eq_false_iff_ne, decide_eq_false_iff_not] at h1
  rcases h1 with h1 | h1 <;> omega
theorem okay_next {V N : Nat → Int} {n : Nat} (h : Okay V N n) {i : Nat} (hi : i < n) (hj : endsC (V i) = false) : i + 1 < n := by
  rcases Nat.lt_or_ge (i + 1) n with h1 | h1
  · exact h1
  · have := (okay_at h hi).2 (by omega)
    rw [hj] at this; cases this
theorem Hi.lt {V N : Nat → Int} {n : Nat} (hk : Okay V N n) {i : Nat} {h : Int} (hh : Hi V N i h) : i < n := by
  induction hh with
  | start => exact hk.1
  | jump a b c ih => have := okay_jump hk ih c; omega
  | next a b c ih => exact okay_next hk ih c

/-! ### What is known so far: H i, below nought where nothing is -/
def upd (H : Nat → Int) (t : Nat) (v : Int) : Nat → Int := fun i => if i = t then v else H i
theorem upd_same (H : Nat → Int) (t : Nat) (v : Int) : upd H t v t = v := by simp [upd]
theorem upd_other (H : Nat → Int) (t : Nat) (v : Int) {i : Nat} (h : i ≠ t) : upd H t v i = H i := by simp [upd, h]
def cnt (H : Nat → Int) (n : Nat) : Nat := (List.range n).countP fun i => decide (0 ≤ H i)
theorem cnt_le (H : Nat → Int) (n : Nat) : cnt H n ≤ n := by
  have := List.countP_le_length (p := fun i => decide (0 ≤ H i)) (l := List.range n)
  simpa [cnt] using this
theorem cnt_succ (H : Nat → Int) (n : Nat) : cnt H (n + 1) = cnt H n + (if 0 ≤ H n then 1 else 0) := by
  unfold cnt; rw [List.range_succ, List.countP_append]; simp
theorem cnt_upd (H : Nat → Int) (t : Nat) (v : Int) (ht : H t < 0) (hv : 0 ≤ v) : ∀ n : Nat, cnt (upd H t v) n = cnt H n + (if t < n then 1 else 0)
  | 0 => by simp [cnt]
  | n + 1 => by
    rw [cnt_succ, cnt_succ, cnt_upd H t v ht hv n]
    by_cases h : n = t
    · subst h; rw [upd_same, if_pos hv, if_neg (show ¬ 0 ≤ H n by omega)]; simp
    · rw [upd_other _ _ _ h]
      by_cases h1 : t < n
      · simp [h1, show t < n + 1 by omega]; omega
      · simp [h1, show ¬ t < n + 1 by omega]

structure Known (V N : Nat → Int) (H : Nat → Int) : Prop where
  sound : ∀ i, 0 ≤ H i → Hi V N i (H i)
  low : ∀ i, H i ≤ 1000
  none : ∀ i, H i < 0 → H i = -1
def Done (V N : Nat → Int) (H : Nat → Int) (i : Nat) : Prop :=
  takesC (V i) ≤ H i ∧ (jumpsC (V i) = true → H (N i).toNat = thenC V i (H i)) ∧ (endsC (V i) = false → H (i + 1) = thenC V i (H i))
/-- All is done but the ones of L, and x. -/
def But (V N : Nat → Int) (H : Nat → Int) (L : List Nat) (x : Nat → Prop) : Prop := ∀ i, 0 ≤ H i → i ∈ L ∨ x i ∨ Done V N H i

theorem known_start (V N : Nat → Int) : Known V N (fun _ => -1) := ⟨fun i hi => by simp at hi, fun i => by simp, fun i _ => rfl⟩
theorem but_start (V N : Nat → Int) : But V N (fun _ => -1) [] (fun _ => False) := fun i hi => by simp at hi
theorem Known.put {V N H : Nat → Int} (hK : Known V N H) {t : Nat} {v : Int} (hv : Hi V N t v) (ht : H t < 0) (hlow : v ≤ 1000) : Known V N (upd H t v) := by
  refine ⟨fun i hi => ?_, fun i => ?_, fun i hi => ?_⟩
  · by_cases h : i = t
    · subst h; rw [upd_same]; exact hv
    · rw [upd_other _ _ _ h] at hi ⊢; exact hK.sound i hi
  · by_cases h : i = t
    · subst h; rw [upd_same]; exact hlow
    · rw [upd_other _ _ _ h]; exact hK.low i
  · by_cases h : i = t
    · subst h; rw [upd_same] at hi; have := hv.nonneg; omega
    · rw [upd_other _ _ _ h] at hi ⊢; exact hK.none i hi
theorem Done.put {V N H : Nat → Int} {i t : Nat} {v : Int} (hd : Done V N H i) (hi : 0 ≤ H i) (ht : H t < 0) : Done V N (upd H t v) i := by
  have hne : i ≠ t := fun e => by subst e; omega
  have h2 : 0 ≤ thenC V i (H i) := by have := leaves_le (V i); have := hd.1; unfold thenC; omega
  refine ⟨by rw [upd_other _ _ _ hne]; exact hd.1, fun hj => ?_, fun he => ?_⟩
  · have e := hd.2.1 hj
    rw [upd_other _ _ _ hne, upd_other _ _ _ (fun e2 => by rw [e2] at e; omega)]; exact e
  · have e := hd.2.2 he
    rw [upd_other _ _ _ hne, upd_other _ _ _ (fun e2 => by rw [e2] at e; omega)]; exact e
theorem But.put {V N H : Nat → Int} {L : List Nat} {x : Nat → Prop} (hB : But V N H L x) {t : Nat} {v : Int} (ht : H t < 0) : But V N (upd H t v) (L ++ [t]) x := by
  intro i hi
  by_cases h : i = t
  · exact .inl (by simp [h])
  · rw [upd_other _ _ _ h] at hi
    rcases hB i hi with h1 | h1 | h1
    · exact .inl (by simp [h1])
    · exact .inr (.inl h1)
    · exact .inr (.inr (h1.put hi ht))
theorem But.pop {V N H : Nat → Int} {L : List Nat} {i : Nat} (hB : But V N H (L ++ [i]) (fun _ => False)) : But V N H L (fun j => j = i) := by
  intro j hj
  rcases hB j hj with h | h | h
  · rcases List.mem_append.1 h with h | h
    · exact .inl h
    · exact .inr (.inl (by simpa using h))
  · exact h.elim
  · exact .inr (.inr h)
theorem But.shut {V N H : Nat → Int} {L : List Nat} {i : Nat} (hB : But V N H L (fun j => j = i)) (hd : Done V N H i) : But V N H L (fun _ => False) := by
  intro j hj
  rcases hB j hj with h | h | h
  · exact .inl h
  · subst h; exact .inr (.inr hd)
  · exact .inr (.inr h)

theorem all_done {V N H : Nat → Int} (hF : H 0 = 0) (hB : ∀ i, 0 ≤ H i → Done V N H i) : ∀ i h, Hi V N i h → H i = h := by
  intro i h hh
  induction hh with
  | start => exact hF
  | jump a b c ih =>
    have h0 := a.nonneg
    rw [← ih] at h0
    rw [(hB _ h0).2.1 c, ih]
  | next a b c ih =>
    have h0 := a.nonneg
    rw [← ih] at h0
    rw [(hB _ h0).2.2 c, ih]
theorem fine_of_done {V N H : Nat → Int} (hK : Known V N H) (hF : H 0 = 0) (hB : ∀ i, 0 ≤ H i → Done V N H i) : Fine V N := by
  intro i h hh
  have e := all_done hF hB i h hh
  have h0 := hh.nonneg
  refine ⟨?_, ?_, fun h' hh' => ?_⟩
  · have := (hB i (by omega)).1; omega
  · have := hK.low i; omega
  · rw [← all_done hF hB i h' hh', e]
theorem not_fine_takes {V N H : Nat → Int} (hK : Known V N H) {i : Nat} (hi : 0 ≤ H i) (h : H i < takesC (V i)) : ¬ Fine V N := fun hf => by
  have := (hf i _ (hK.sound i hi)).1; omega
theorem not_fine_high {V N : Nat → Int} {t : Nat} {v : Int} (hv : Hi V N t v) (h : 1000 < v) : ¬ Fine V N := fun hf => by
  have := (hf t v hv).2.1; omega
theorem not_fine_two {V N H : Nat → Int} (hK : Known V N H) {t : Nat} {v : Int} (hv : Hi V N t v) (ht : 0 ≤ H t) (h : H t ≠ v) : ¬ Fine V N := fun hf => by
  exact h ((hf t v hv).2.2 _ (hK.sound t ht))

/-- The one list there is. -/
noncomputable def hOf (V N : Nat → Int) (i : Nat) : Int := open Classical in if h : ∃ x, Hi V N i x then h.choose else -1
theorem hOf_eq {V N H : Nat → Int} (hK : Known V N H) (hF : H 0 = 0) (hB : ∀ i, 0 ≤ H i → Done V N H i) (i : Nat) : hOf V N i = H i := by
  unfold hOf
  split
  · rename_i h; exact (all_done hF hB i _ h.choose_spec).symm
  · rename_i h
    rcases Int.lt_or_le (H i) 0 with h0 | h0
    · exact (hK.none i h0).symm
    · exact absurd ⟨_, hK.sound i h0⟩ h
noncomputable def hList (V N : Nat → Int) (n : Nat) : List Int := (List.range n).map (hOf V N)
theorem hList_length (V N : Nat → Int) (n : Nat) : (hList V N n).length = n := by simp [hList]
theorem hList_get (V N : Nat → Int) (n i : Nat) (h : i < n) : (hList V N n).getD i 0 = hOf V N i := by simp [hList, h]
theorem hOf_le {V N : Nat → Int} (i : Nat) (hf : Fine V N) : -1 ≤ hOf V N i ∧ hOf V N i ≤ 1000 := by
  unfold hOf
  split
  · rename_i h
    have h1 := hf i _ h.choose_spec
    have h2 := h.choose_spec.nonneg
    omega
  · omega
end Go.Proofs.Ytlnldkciiphidaa
