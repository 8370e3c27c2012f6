/- Two machines beside one another: what one does leaves the other as it is. -/
import Derived.Test.YtflinbfobadheaaRisc20
namespace Go.Proofs.Ytflinbfobadheaa
open Go.RowKit Go.Waf
set_option maxRecDepth 100000
set_option linter.unusedVariables false

structure DuoM (p1 p2 : Bool) (w : World) (base q1 q2 : Nat) (R : Nat → Prop) (cv1 mv1 cv2 mv2 : Value) (s1 s2 : St) (B1 B2 : Nat) (F1 F2 : Nat → Prop) (iv1 ov1 iv2 ov2 : Value) : Prop where
  m1 : Mach p1 w B1 q1 F1 cv1 mv1 iv1 ov1 s1
  m2 : Mach p2 w B2 q2 F2 cv2 mv2 iv2 ov2 s2
  b1 : base ≤ B1
  b2 : base ≤ B2
  dis : ∀ k, F1 k → ¬ F2 k
  c1 : ∀ k, cv1.ownBlock = some k → 0 < s1.code.length → ¬ F2 k
  i1 : ∀ k, iv1.ownBlock = some k → 0 < s1.inp.length → ¬ F2 k
  c2 : ∀ k, cv2.ownBlock = some k → 0 < s2.code.length → ¬ F1 k
  i2 : ∀ k, iv2.ownBlock = some k → 0 < s2.inp.length → ¬ F1 k
  r : ∀ k, R k → ¬ F2 k
def Duo (p1 p2 : Bool) (w : World) (base q1 q2 : Nat) (R : Nat → Prop) (cv1 mv1 cv2 mv2 : Value) (s1 s2 : St) : Prop :=
  ∃ B1 B2 F1 F2 iv1 ov1 iv2 ov2, DuoM p1 p2 w base q1 q2 R cv1 mv1 cv2 mv2 s1 s2 B1 B2 F1 F2 iv1 ov1 iv2 ov2
section
variable {p1 p2 : Bool} {w w' : World} {base q1 q2 B1 B2 : Nat} {R F1 F2 : Nat → Prop} {cv1 mv1 cv2 mv2 iv1 ov1 iv2 ov2 : Value} {s1 s2 : St}
theorem DuoM.left (h : DuoM p1 p2 w base q1 q2 R cv1 mv1 cv2 mv2 s1 s2 B1 B2 F1 F2 iv1 ov1 iv2 ov2) {s' : St} {F' : Nat → Prop} {iv' ov' : Value} (R' : Nat → Prop) (hM : Mach p1 w' B1 q1 F' cv1 mv1 iv' ov' s') (hF : ∀ k, F' k → F1 k ∨ w.heap.size ≤ k)
    (hiv : iv'.ownBlock = iv1.ownBlock) (hf : Fr F1 w w') (hc : s'.code = s1.code) (hi : s'.inp.length ≤ s1.inp.length) (hr : ∀ k, R' k → w.heap.size ≤ k) : Duo p1 p2 w' base q1 q2 R' cv1 mv1 cv2 mv2 s' s2 := by
  have hlt : ∀ k, F2 k → k < w.heap.size := fun k hk => (h.m2.fb k hk).2
  refine ⟨B1, B2, F', F2, iv', ov', iv2, ov2, hM, h.m2.keep hf (fun k h2 h1 => h.dis k h1 h2) h.c2 h.i2, h.b1, h.b2, fun k h1 h2 => ?_, fun k hk hn => h.c1 k hk (by rw [← hc]; exact hn), fun k hk hn => h.i1 k (by rw [← hiv]; exact hk) (by omega), fun k hk hn h1 => ?_, fun k hk hn h1 => ?_, fun k hk h2 => ?_⟩
  · rcases hF k h1 with h3 | h3
    · exact h.dis k h3 h2
    · have := hlt k h2; omega
  · rcases hF k h1 with h3 | h3
    · exact h.c2 k hk hn h3
    · have := rd_block h.m2.code (by decide) hn hk; omega
  · rcases hF k h1 with h3 | h3
    · exact h.i2 k hk hn h3
    · have := rd_block h.m2.inp (by decide) hn hk; omega
  · have := hlt k h2; have := hr k hk; omega
theorem DuoM.swap (h : DuoM p1 p2 w base q1 q2 R cv1 mv1 cv2 mv2 s1 s2 B1 B2 F1 F2 iv1 ov1 iv2 ov2) : DuoM p2 p1 w base q2 q1 (fun _ => False) cv2 mv2 cv1 mv1 s2 s1 B2 B1 F2 F1 iv2 ov2 iv1 ov1 :=
  ⟨h.m2, h.m1, h.b2, h.b1, fun k h2 h1 => h.dis k h1 h2, h.c2, h.i2, h.c1, h.i1, fun _ hf => hf.elim⟩
theorem Duo.swap (h : Duo p1 p2 w base q1 q2 R cv1 mv1 cv2 mv2 s1 s2) : Duo p2 p1 w base q2 q1 (fun _ => False) cv2 mv2 cv1 mv1 s2 s1 := by
  obtain ⟨_, _, _, _, _, _, _, _, h⟩ := h; exact ⟨_, _, _, _, _, _, _, _, h.swap⟩
theorem Duo.below (h : Duo p1 p2 w base q1 q2 R cv1 mv1 cv2 mv2 s1 s2) (hb : Below w.heap.size w w') : Duo p1 p2 w' base q1 q2 R cv1 mv1 cv2 mv2 s1 s2 := by
  obtain ⟨_, _, _, _, _, _, _, _, h⟩ := h
  exact ⟨_, _, _, _, _, _, _, _, h.m1.below hb, h.m2.below hb, h.b1, h.b2, h.dis, h.c1, h.i1, h.c2, h.i2, h.r⟩
/-- Both made, one behind the other. -/
theorem duo_new {p1 p2 : Bool} {w wa wb : World} {N1 N2 : Nat} {code inp : List Int} {cb1 ib1 cb2 ib2 : Nat → Prop} {e1 e2 : Ending} (hb0 : base ≤ w.heap.size) (h1 : NewPost p1 w code N1 inp cb1 ib1 e1 wa) (h2 : NewPost p2 wa code N2 inp cb2 ib2 e2 wb) (hc2 : ∀ k, cb2 k → 0 < code.length → k < w.heap.size ∨ wa.heap.size ≤ k) (hi2 : ∀ k, ib2 k → 0 < inp.length → k < w.heap.size ∨ wa.heap.size ≤ k) (hc1 : ∀ k, cb1 k → w.heap.size ≤ k) (hi1 : ∀ k, ib1 k → w.heap.size ≤ k) :
    ∃ q1 q2 cv1 mv1 cv2 mv2, e1 = .returned (.pointer (some ⟨q1, 0, none⟩)) ∧ e2 = .returned (.pointer (some ⟨q2, 0, none⟩)) ∧ Duo p1 p2 wb base q1 q2 (fun _ => False) cv1 mv1 cv2 mv2 (St.new code N1 inp) (St.new code N2 inp) ∧ Below w.heap.size w wb := by
  obtain ⟨q1, F1, cv1, mv1, iv1, rfl, m1, k1, j1, b1⟩ := h1
  obtain ⟨q2, F2, cv2, mv2, iv2, rfl, m2, k2, j2, b2⟩ := h2
  refine ⟨q1, q2, cv1, mv1, cv2, mv2, rfl, rfl, ⟨_, _, F1, F2, iv1, _, iv2, _, m1.below b2, m2, by omega, Nat.le_trans hb0 b1.size, fun k h1 h2 => ?_, fun k hk hn h2 => ?_, fun k hk hn h2 => ?_, fun k hk hn h1 => ?_, fun k hk hn h1 => ?_, fun _ hf => hf.elim⟩, b1.trans (b2.mono b1.size)⟩
  · have := m1.fb k h1; have := m2.fb k h2; omega
  · have := rd_block m1.code (by decide) hn hk; have := m2.fb k h2; omega
  · have := rd_block m1.inp (by decide) hn hk; have := m2.fb k h2; omega
  · have := hc2 k (k2 k hk hn) hn; have := m1.fb k h1; omega
  · have := hi2 k (j2 k hk hn) hn; have := m1.fb k h1; omega
end
section
variable {w : World} {base q1 q2 : Nat} {R : Nat → Prop} {cv1 mv1 cv2 mv2 : Value} {s1 s2 : St}
def DuoRun (p1 p2 : Bool) (w : World) (base q1 q2 : Nat) (cv1 mv1 cv2 mv2 : Value) (s1 s2 : St) (e : Ending) (w' : World) : Prop :=
  ∃ va vc, e = .returned (.agg #[.slice va s1.out.length vc, .int .i64 s1.fin, .int .i64 s1.trap]) ∧ Rd w' 1 (.slice va s1.out.length vc) s1.out.length (byt s1.out) ∧ Duo p1 p2 w' base q1 q2 (fun k => (Value.slice va s1.out.length vc).ownBlock = some k) cv1 mv1 cv2 mv2 s1 s2 ∧ Below base w w'
theorem duo_of_run {p1 p2 : Bool} {fuel : Nat} {s : St} (hs : s = s1.stepN fuel) (B1 B2 : Nat) (F1 F2 : Nat → Prop) (iv1 ov1 iv2 ov2 : Value) (h : DuoM p1 p2 w base q1 q2 R cv1 mv1 cv2 mv2 s1 s2 B1 B2 F1 F2 iv1 ov1 iv2 ov2) {e : Ending} {w' : World} (hp : RunPost p1 w B1 q1 F1 cv1 mv1 iv1 s e w') :
    DuoRun p1 p2 w base q1 q2 cv1 mv1 cv2 mv2 s s2 e w' := by
  obtain ⟨v, F', iv', ov', he, ho, hM, hF, hiv, hf⟩ := hp
  obtain ⟨va, vc, rfl, _, _, _⟩ := owns_shape ho
  exact ⟨va, vc, he, rd_of_owns ho, h.left _ hM hF hiv hf (by rw [hs]; exact (stepN_out s1 fuel).2) (by rw [hs]; exact (stepN_inp s1 fuel).1) (fun k hk => (ho.lt k hk).1), h.m1.fr_below h.b1 hf⟩
theorem duo_run_pl {p2 : Bool} (h : Duo true p2 w base q1 q2 R cv1 mv1 cv2 mv2 s1 s2) (fuel : Int) (hf0 : -9223372036854775808 ≤ fuel) (hf1 : fuel ≤ 10000) (hol : s1.out.length ≤ 900000) :
    Calls Try.prog 14 #[.pointer (some ⟨q1, 0, none⟩), .int .i64 fuel] w (DuoRun true p2 w base q1 q2 cv1 mv1 cv2 mv2 (s1.stepN fuel.toNat) s2) := by
  obtain ⟨B1, B2, F1, F2, iv1, ov1, iv2, ov2, h⟩ := h
  exact (prun_any h.m1 fuel hf0 hf1 hol).mono fun e w' hp => duo_of_run rfl _ _ _ _ _ _ _ _ h hp
theorem duo_run_rl {p2 : Bool} (h : Duo false p2 w base q1 q2 R cv1 mv1 cv2 mv2 s1 s2) (fuel : Int) (hf0 : -9223372036854775808 ≤ fuel) (hf1 : fuel ≤ 10000) (hol : s1.out.length ≤ 900000) :
    Calls Try.prog 28 #[.pointer (some ⟨q1, 0, none⟩), .int .i64 fuel] w (DuoRun false p2 w base q1 q2 cv1 mv1 cv2 mv2 (s1.stepN fuel.toNat) s2) := by
  obtain ⟨B1, B2, F1, F2, iv1, ov1, iv2, ov2, h⟩ := h
  exact (rrun_any h.m1 fuel hf0 hf1 hol).mono fun e w' hp => duo_of_run rfl _ _ _ _ _ _ _ _ h hp
/-- The second runs; what the first has told stays. -/
def DuoRun2 (p1 p2 : Bool) (w : World) (base q1 q2 : Nat) (R : Nat → Prop) (cv1 mv1 cv2 mv2 : Value) (s1 s2 : St) (e : Ending) (w' : World) : Prop :=
  ∃ va vc, e = .returned (.agg #[.slice va s2.out.length vc, .int .i64 s2.fin, .int .i64 s2.trap]) ∧ Rd w' 1 (.slice va s2.out.length vc) s2.out.length (byt s2.out) ∧ Duo p1 p2 w' base q1 q2 (fun _ => False) cv1 mv1 cv2 mv2 s1 s2 ∧ Below base w w' ∧ ∃ G : Nat → Prop, Fr G w w' ∧ ∀ k, R k → ¬ G k
theorem duo_of_run2 {p1 p2 : Bool} {fuel : Nat} {s : St} (hs : s = s2.stepN fuel) (B1 B2 : Nat) (F1 F2 : Nat → Prop) (iv1 ov1 iv2 ov2 : Value) (h : DuoM p1 p2 w base q1 q2 R cv1 mv1 cv2 mv2 s1 s2 B1 B2 F1 F2 iv1 ov1 iv2 ov2) {e : Ending} {w' : World} (hp : RunPost p2 w B2 q2 F2 cv2 mv2 iv2 s e w') :
    DuoRun2 p1 p2 w base q1 q2 R cv1 mv1 cv2 mv2 s1 s e w' := by
  obtain ⟨va, vc, he, hr, hd, hb⟩ := duo_of_run hs _ _ _ _ _ _ _ _ h.swap hp
  obtain ⟨v, F', iv', ov', _, ho, hM, hF, hiv, hf⟩ := hp
  exact ⟨va, vc, he, hr, hd.swap, hb, F2, hf, h.r⟩
theorem duo_run_p2 {p1 : Bool} (h : Duo p1 true w base q1 q2 R cv1 mv1 cv2 mv2 s1 s2) (fuel : Int) (hf0 : -9223372036854775808 ≤ fuel) (hf1 : fuel ≤ 10000) (hol : s2.out.length ≤ 900000) :
    Calls Try.prog 14 #[.pointer (some ⟨q2, 0, none⟩), .int .i64 fuel] w (DuoRun2 p1 true w base q1 q2 R cv1 mv1 cv2 mv2 s1 (s2.stepN fuel.toNat)) := by
  obtain ⟨B1, B2, F1, F2, iv1, ov1, iv2, ov2, h⟩ := h
  exact (prun_any h.m2 fuel hf0 hf1 hol).mono fun e w' hp => duo_of_run2 rfl _ _ _ _ _ _ _ _ h hp
theorem duo_run_r2 {p1 : Bool} (h : Duo p1 false w base q1 q2 R cv1 mv1 cv2 mv2 s1 s2) (fuel : Int) (hf0 : -9223372036854775808 ≤ fuel) (hf1 : fuel ≤ 10000) (hol : s2.out.length ≤ 900000) :
    Calls Try.prog 28 #[.pointer (some ⟨q2, 0, none⟩), .int .i64 fuel] w (DuoRun2 p1 false w base q1 q2 R cv1 mv1 cv2 mv2 s1 (s2.stepN fuel.toNat)) := by
  obtain ⟨B1, B2, F1, F2, iv1, ov1, iv2, ov2, h⟩ := h
  exact (rrun_any h.m2 fuel hf0 hf1 hol).mono fun e w' hp => duo_of_run2 rfl _ _ _ _ _ _ _ _ h hp
theorem duo_step_p {p2 : Bool} (h : Duo true p2 w base q1 q2 R cv1 mv1 cv2 mv2 s1 s2) (hol : s1.out.length ≤ 1000000) :
    Calls Try.prog 20 #[.pointer (some ⟨q1, 0, none⟩)] w fun e w' => e = .returned (.bool (decide (s1.fin = 0))) ∧ Duo true p2 w' base q1 q2 (fun _ => False) cv1 mv1 cv2 mv2 s1.step s2 ∧ Below base w w' := by
  obtain ⟨B1, B2, F1, F2, iv1, ov1, iv2, ov2, h⟩ := h
  refine (pstep_any h.m1 hol).mono ?_
  rintro e w' ⟨he, ⟨F', iv', ov', hM, hF, hiv⟩, hf⟩
  exact ⟨he, h.left _ hM hF hiv hf (step_out s1).2 (step_inp s1).1 (fun _ hf => hf.elim), h.m1.fr_below h.b1 hf⟩
theorem duo_step_r {p2 : Bool} (h : Duo false p2 w base q1 q2 R cv1 mv1 cv2 mv2 s1 s2) (hol : s1.out.length ≤ 1000000) :
    Calls Try.prog 25 #[.pointer (some ⟨q1, 0, none⟩)] w fun e w' => e = .returned (.bool (decide (s1.fin = 0))) ∧ Duo false p2 w' base q1 q2 (fun _ => False) cv1 mv1 cv2 mv2 s1.step s2 ∧ Below base w w' := by
  obtain ⟨B1, B2, F1, F2, iv1, ov1, iv2, ov2, h⟩ := h
  refine (rstep_any h.m1 hol).mono ?_
  rintro e w' ⟨he, ⟨F', iv', ov', hM, hF, hiv⟩, hf⟩
  exact ⟨he, h.left _ hM hF hiv hf (step_out s1).2 (step_inp s1).1 (fun _ hf => hf.elim), h.m1.fr_below h.b1 hf⟩
end
end Go.Proofs.Ytflinbfobadheaa
