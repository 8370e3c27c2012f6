/- How known code runs, in plain Lean: the echo. -/
import Derived.Test.YtflinbfobadheaaRisc26
namespace Go.Proofs.Ytflinbfobadheaa
open Go.RowKit Go.Waf
set_option maxRecDepth 100000
set_option linter.unusedVariables false

theorem exec_op {s s' : St} {i : Ins} (hf : i.f < 2) (h : s.operate i = some s') : s.exec i = { s' with pc := s.pc + 1 } := by
  unfold St.exec; rw [if_pos hf, h]
theorem exec_move {s s' : St} {i : Ins} (hf : i.f = 2) (h : s.move i = some s') : s.exec i = { s' with pc := s.pc + 1 } := by
  unfold St.exec; rw [if_neg (by omega), if_pos hf, h]
theorem exec_move0 {s : St} {i : Ins} (hf : i.f = 2) (h : s.move i = none) : s.exec i = s.fault := by
  unfold St.exec; rw [if_neg (by omega), if_pos hf, h]
theorem exec_br {s s' : St} {t : Int} {i : Ins} (hf : i.f = 3) (h : s.branch i = some (t, s')) (h0 : s'.fin = 0) : s.exec i = { s' with pc := t } := by
  unfold St.exec; rw [if_neg (by omega), if_neg (by omega), h]; simp [h0]
theorem exec_end {s s' : St} {t : Int} {i : Ins} (hf : i.f = 3) (h : s.branch i = some (t, s')) (h0 : s'.fin ≠ 0) : s.exec i = s' := by
  unfold St.exec; rw [if_neg (by omega), if_neg (by omega), h]; simp [h0]
theorem right_of (i : Ins) (h : (decide (0 ≤ i.a) && decide (i.a < 16) && decide (0 ≤ i.b) && decide (i.b < 16) && decide (0 ≤ i.c) && decide (i.c < 16) && decide (0 ≤ i.op) && decide (i.op < 16)) = true)
    (h5 : (i.f = 0 ∧ i.imm = 0) ∨ (i.f = 1 ∧ i.c = 0 ∧ 0 ≤ i.imm ∧ i.imm < 65536) ∨ (i.f = 2 ∧ i.c = 0 ∧ i.op = 0 ∧ -524288 ≤ i.imm ∧ i.imm < 524288) ∨
    (i.f = 3 ∧ i.b = 0 ∧ i.op = 0 ∧ i.u = true ∧ i.c = 0 ∧ -8388608 ≤ i.imm ∧ i.imm < 8388608) ∨ (i.f = 3 ∧ i.b = 0 ∧ i.op = 0 ∧ i.u = false ∧ 0 ≤ i.imm ∧ i.imm < 16)) : Right i := by
  simp only [Bool.and_eq_true, decide_eq_true_eq] at h
  obtain ⟨⟨⟨⟨⟨⟨⟨h0, h1⟩, h2⟩, h3⟩, h4⟩, h6⟩, h7⟩, h8⟩ := h
  exact ⟨⟨h0, h1⟩, ⟨h2, h3⟩, ⟨h4, h6⟩, ⟨h7, h8⟩, h5⟩

def echo : List Ins := [⟨2, false, false, 1, 0, 0, 0, -60⟩, ⟨3, true, false, 9, 0, 0, 0, 3⟩, ⟨2, false, false, 1, 0, 0, 0, -64⟩, ⟨2, true, false, 1, 0, 0, 0, -64⟩, ⟨3, true, false, 7, 0, 0, 0, -5⟩, ⟨3, false, true, 7, 0, 12, 0, 0⟩]
theorem echo_right : ∀ i ∈ echo, Right i := by
  intro i hi
  simp only [echo, List.mem_cons, List.not_mem_nil, or_false] at hi
  rcases hi with rfl | rfl | rfl | rfl | rfl | rfl
  all_goals exact right_of _ rfl (by decide)
def echoC : List Int := echo.map encW
theorem echo_step {s : St} (k : Nat) (i : Ins) (hi : echo[k]? = some i) (hc : s.code = echoC) (hf : s.fin = 0) (hpc : s.pc = k) : s.step = s.exec i :=
  step_at hf hpc (by rw [hc, echoC, List.getElem?_map, hi]; rfl) (echo_right i (List.mem_of_getElem? hi))
def EchoAt (s : St) (inp out : List Int) : Prop := s.code = echoC ∧ s.fin = 0 ∧ s.pc = 0 ∧ s.r.length = 16 ∧ s.r.getD 0 0 = 0 ∧ s.inp = inp ∧ s.out = out
theorem set1_0 (r : List Int) (x : Int) (h : r.length = 16) (h0 : r.getD 0 0 = 0) : (r.set 1 x).length = 16 ∧ (r.set 1 x).getD 0 0 = 0 ∧ (r.set 1 x).getD 1 0 = x := by
  refine ⟨by simp [h], ?_, ?_⟩
  · simpa [List.getD_eq_getElem?_getD, List.getElem?_set] using h0
  · simp [List.getD_eq_getElem?_getD, h]
theorem place0 (s : St) (h : s.r.getD 0 0 = 0) (f : Int) (u v : Bool) (a c op imm : Int) : s.place ⟨f, u, v, a, 0, c, op, imm⟩ = cut32 imm := by
  unfold St.place St.rg
  show cut32 (s.r.getD (0 : Int).toNat 0 + imm) = _
  rw [show (0 : Int).toNat = 0 from rfl, h, Int.zero_add]
theorem echo_1 {s : St} {inp out : List Int} (h : EchoAt s inp out) : s.step = { (s.told 1 (if inp = [] then 1 else 0)) with pc := 1 } := by
  obtain ⟨hc, hf, hp, hl, h0, hi, ho⟩ := h
  rw [echo_step 0 _ rfl hc hf hp, exec_move rfl (s' := s.told 1 (if inp = [] then 1 else 0)), hp]; rfl
  have hp : s.place ⟨2, false, false, 1, 0, 0, 0, -60⟩ = 4294967236 := by rw [place0 s h0]; rfl
  unfold St.move
  rw [hp, hi]; simp
theorem echo_round {s : St} {y : Int} {ys out : List Int} (h : EchoAt s (y :: ys) out) (hy : 0 ≤ y ∧ y ≤ 255) : EchoAt (s.stepN 5) ys (out ++ [y]) := by
  have e1 := echo_1 h
  obtain ⟨hc, hf, hp, hl, h0, hi, ho⟩ := h
  obtain ⟨r1, r2, r3⟩ := set1_0 s.r 0 hl h0
  simp only [reduceCtorEq, if_false] at e1
  have e2 : s.step.step = { (s.told 1 0) with pc := 2 } := by
    rw [e1, echo_step 1 _ rfl (by exact hc) (by exact hf) rfl, exec_br rfl (t := 2) (s' := { (s.told 1 0) with pc := 1 }) _ (by exact hf)]
    rfl
  have e3 : s.step.step.step = { ({ (s.told 1 0) with inp := ys }.told 1 y) with pc := 3 } := by
    rw [e2, echo_step 2 _ rfl (by exact hc) (by exact hf) rfl, exec_move rfl (s' := ({ (s.told 1 0) with inp := ys, pc := 2 }.told 1 y))]
    · rfl
    · have hp : ({ (s.told 1 0) with pc := 2 } : St).place ⟨2, false, false, 1, 0, 0, 0, -64⟩ = 4294967232 := by rw [place0 _ (by exact r2)]; rfl
      unfold St.move
      rw [hp]
      simp [St.told, hi]
  obtain ⟨q1, q2, q3⟩ := set1_0 (s.r.set 1 0) y r1 r2
  obtain ⟨s3, hs3⟩ : ∃ s3 : St, s3 = { ({ (s.told 1 0) with inp := ys }.told 1 y) with pc := 3 } := ⟨_, rfl⟩
  rw [← hs3] at e3
  have g : s3.code = echoC ∧ s3.fin = 0 ∧ s3.pc = 3 ∧ s3.r = (s.r.set 1 0).set 1 y ∧ s3.inp = ys ∧ s3.out = out := by rw [hs3]; exact ⟨hc, hf, rfl, rfl, rfl, ho⟩
  obtain ⟨gc, gf, gp, gr, gi, go⟩ := g
  have e4 : s3.step = { s3 with out := out ++ [y], pc := 4 } := by
    rw [echo_step 3 _ rfl gc gf gp, exec_move rfl (s' := { s3 with out := out ++ [y] }), gp]; rfl
    have hp : s3.place ⟨2, true, false, 1, 0, 0, 0, -64⟩ = 4294967232 := by rw [place0 _ (by rw [gr]; exact q2)]; rfl
    have h1 : s3.rg 1 = y := by unfold St.rg; rw [gr]; exact q3
    unfold St.move
    rw [hp]
    simp [h1, go]; omega
  have e5 : s3.step.step = { s3 with out := out ++ [y], pc := 0 } := by
    rw [e4, echo_step 4 _ rfl (by exact gc) (by exact gf) rfl, exec_br rfl (t := 0) (s' := { s3 with out := out ++ [y], pc := 4 }) _ (by exact gf)]
    rfl
  show EchoAt s.step.step.step.step.step ys (out ++ [y])
  rw [e3, e5]
  exact ⟨gc, gf, rfl, by show s3.r.length = 16; rw [gr]; exact q1, by show s3.r.getD 0 0 = 0; rw [gr]; exact q2, gi, rfl⟩
theorem echo_end {s : St} {out : List Int} (h : EchoAt s [] out) : (s.stepN 3).out = out ∧ (s.stepN 3).fin = 1 := by
  have e1 := echo_1 h
  obtain ⟨hc, hf, hp, hl, h0, hi, ho⟩ := h
  simp only [if_true] at e1
  have e2 : s.step.step = { (s.told 1 1) with pc := 5 } := by
    rw [e1, echo_step 1 _ rfl (by exact hc) (by exact hf) rfl, exec_br rfl (t := 5) (s' := { (s.told 1 1) with pc := 1 }) _ (by exact hf)]
    rfl
  have e3 : s.step.step.step = { (s.told 1 1) with pc := 5, fin := 1 } := by
    rw [e2, echo_step 5 _ rfl (by exact hc) (by exact hf) rfl, exec_end rfl (t := 6) (s' := { (s.told 1 1) with pc := 5, fin := 1 }) _ (by show (1 : Int) ≠ 0; decide)]
    rfl
  show s.step.step.step.out = out ∧ s.step.step.step.fin = 1
  rw [e3]; exact ⟨ho, rfl⟩
theorem echo_all (inp : List Int) (hi : ∀ x ∈ inp, 0 ≤ x ∧ x ≤ 255) : ∀ (s : St) (out : List Int), EchoAt s inp out → (s.stepN (5 * inp.length + 3)).out = out ++ inp ∧ (s.stepN (5 * inp.length + 3)).fin = 1 := by
  induction inp with
  | nil => intro s out h; simpa using echo_end h
  | cons y ys ih =>
    intro s out h
    have h5 := echo_round h (hi y (by simp))
    have := ih (fun x hx => hi x (by simp [hx])) _ _ h5
    rw [← St.stepN_add] at this
    rw [List.length_cons, show 5 * (ys.length + 1) + 3 = 5 + (5 * ys.length + 3) by omega]
    simpa using this
theorem echo_run (inp : List Int) (hi : ∀ x ∈ inp, 0 ≤ x ∧ x ≤ 255) : ((St.new echoC 0 inp).stepN (5 * inp.length + 3)).out = inp ∧ ((St.new echoC 0 inp).stepN (5 * inp.length + 3)).fin = 1 := by
  simpa using echo_all inp hi (St.new echoC 0 inp) [] ⟨rfl, rfl, rfl, rfl, rfl, rfl, rfl⟩
end Go.Proofs.Ytflinbfobadheaa
