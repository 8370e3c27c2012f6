/- A region that draws its order: two calls in a row, two allocs at any time, two stores behind. All orders at once. -/
import Derived.Test.YtiikeilpgajmfaaFd22
import Derived.Deep.RegionHeld3
import Derived.Laws.CopyOwn
namespace Go.Proofs.Ytiikeilpgajmfaa
open Go.RowKit Go.Waf
set_option linter.unusedVariables false

section
variable {P : Program} {ops : Array Oper} {Q : Exit → Act → World → Prop} {md : Region.Mode} {S : World → Prop}

/-- Four slots filled. -/
def fill4 (d1 d2 q1 q2 : Nat) (a : Act) (x1 x2 y1 y2 : Value) : Act := (((a.put (some d1) x1).put (some d2) x2).put (some q1) y1).put (some q2) y2

def left4 (b1 b2 e1 e2 : Bool) : Nat := (if b1 then 0 else 1) + (if b2 then 0 else 1) + (if e1 then 0 else 1) + (if e2 then 0 else 1)

/-- What may come up in each state: a check for the kernel. -/
def readyAll (md : Region.Mode) (ops : Array Oper) (M : Bool → Bool → Bool → Bool → Array Bool) (c1 c2 p1 p2 s1 : Nat) : Bool :=
  [true, false].all fun b1 => [true, false].all fun b2 => [true, false].all fun e1 => [true, false].all fun e2 =>
    (b2 && !b1) || (!(Region.ready md ops (M b1 b2 e1 e2)).isEmpty && (Region.ready md ops (M b1 b2 e1 e2)).all fun i =>
      (decide (i = c1) && !b1) || (decide (i = c2) && b1 && !b2) || (decide (i = p1) && !e1) || (decide (i = p2) && !e2) || (decide (i = s1) && b1 && b2 && e1 && e2))
theorem readyAll_spec {M : Bool → Bool → Bool → Bool → Array Bool} {c1 c2 p1 p2 s1 : Nat} (h : readyAll md ops M c1 c2 p1 p2 s1 = true) : ∀ b1 b2 e1 e2, (b2 = true → b1 = true) → Region.ready md ops (M b1 b2 e1 e2) ≠ [] ∧ ∀ i ∈ Region.ready md ops (M b1 b2 e1 e2), (i = c1 ∧ b1 = false) ∨ (i = c2 ∧ b1 = true ∧ b2 = false) ∨ (i = p1 ∧ e1 = false) ∨ (i = p2 ∧ e2 = false) ∨ (i = s1 ∧ b1 = true ∧ b2 = true ∧ e1 = true ∧ e2 = true) := fun b1 b2 e1 e2 hb => by
  have ht : ∀ b : Bool, b ∈ [true, false] := fun b => by cases b <;> simp
  unfold readyAll at h
  rw [List.all_eq_true] at h
  have h := h b1 (ht b1)
  rw [List.all_eq_true] at h
  have h := h b2 (ht b2)
  rw [List.all_eq_true] at h
  have h := h e1 (ht e1)
  rw [List.all_eq_true] at h
  have h := h e2 (ht e2)
  have h0 : (b2 && !b1) = false := by cases b1 <;> cases b2 <;> first | rfl | exact absurd (hb rfl) (by decide)
  rw [h0, Bool.false_or, Bool.and_eq_true] at h
  refine ⟨fun e => by rw [e] at h; simp at h, fun i hi => ?_⟩
  have h1 := (List.all_eq_true.1 h.2) i hi
  simp only [Bool.or_eq_true, Bool.and_eq_true, decide_eq_true_eq, Bool.not_eq_true'] at h1
  rcases h1 with (((h1 | h1) | h1) | h1) | h1
  · exact .inl h1
  · exact .inr (.inl ⟨h1.1.1, h1.1.2, h1.2⟩)
  · exact .inr (.inr (.inl h1))
  · exact .inr (.inr (.inr (.inl h1)))
  · exact .inr (.inr (.inr (.inr ⟨h1.1.1.1.1, h1.1.1.1.2, h1.1.1.2, h1.1.2, h1.2⟩)))
theorem put_self (a : Act) (d : Nat) : a.put (some d) (a.tmps.getD d undef) = a := by
  unfold Act.put
  simp only
  congr 1
  unfold Array.setIfInBounds
  by_cases hh : d < a.tmps.size
  · rw [dif_pos hh, show a.tmps.getD d undef = a.tmps[d] from by simp [Array.getD, hh]]
    exact Array.set_getElem_self hh
  · rw [dif_neg hh]
theorem fill4_self (d1 d2 q1 q2 : Nat) (a : Act) : fill4 d1 d2 q1 q2 a (a.tmps.getD d1 undef) (a.tmps.getD d2 undef) (a.tmps.getD q1 undef) (a.tmps.getD q2 undef) = a := by
  unfold fill4
  rw [put_self, put_self, put_self, put_self]

theorem drawn_two {d1 d2 q1 q2 c1 c2 p1 p2 s1 s2 : Nat} {wo : World} {z r1 r2 : Array Value} {T : TypeId} {v1 v2 : Value} {M : Bool → Bool → Bool → Bool → Array Bool} {a : Act}
    (hS : ∀ W, Below wo.heap.size wo W → S W)
    (hM1 : ∀ b2 e1 e2, (M false b2 e1 e2).setIfInBounds c1 true = M true b2 e1 e2)
    (hM2 : ∀ b1 e1 e2, (M b1 false e1 e2).setIfInBounds c2 true = M b1 true e1 e2)
    (hM3 : ∀ b1 b2 e2, (M b1 b2 false e2).setIfInBounds p1 true = M b1 b2 true e2)
    (hM4 : ∀ b1 b2 e1, (M b1 b2 e1 false).setIfInBounds p2 true = M b1 b2 e1 true)
    (hr : ∀ b1 b2 e1 e2, (b2 = true → b1 = true) → Region.ready md ops (M b1 b2 e1 e2) ≠ [] ∧ ∀ i ∈ Region.ready md ops (M b1 b2 e1 e2), (i = c1 ∧ b1 = false) ∨ (i = c2 ∧ b1 = true ∧ b2 = false) ∨ (i = p1 ∧ e1 = false) ∨ (i = p2 ∧ e2 = false) ∨ (i = s1 ∧ b1 = true ∧ b2 = true ∧ e1 = true ∧ e2 = true))
    (hr1 : Region.ready md ops ((M true true true true).setIfInBounds s1 true) = [s2])
    (hr2 : Region.ready md ops (((M true true true true).setIfInBounds s1 true).setIfInBounds s2 true) = [])
    (hc1 : ∀ x1 x2 y1 y2 W K, (∀ W', Below W.heap.size W W' → K (fill4 d1 d2 q1 q2 a v1 x2 y1 y2) W') → wpOp P ops Q c1 K (fill4 d1 d2 q1 q2 a x1 x2 y1 y2) W)
    (hc2 : ∀ x1 x2 y1 y2 W K, (∀ W', Below W.heap.size W W' → K (fill4 d1 d2 q1 q2 a x1 v2 y1 y2) W') → wpOp P ops Q c2 K (fill4 d1 d2 q1 q2 a x1 x2 y1 y2) W)
    (hp1 : ∀ x1 x2 y1 y2 W K, K (fill4 d1 d2 q1 q2 a x1 x2 (.pointer (some ⟨W.heap.size, 0, none⟩)) y2) (W.alloc (.cells z T)) → wpOp P ops Q p1 K (fill4 d1 d2 q1 q2 a x1 x2 y1 y2) W)
    (hp2 : ∀ x1 x2 y1 y2 W K, K (fill4 d1 d2 q1 q2 a x1 x2 y1 (.pointer (some ⟨W.heap.size, 0, none⟩))) (W.alloc (.cells z T)) → wpOp P ops Q p2 K (fill4 d1 d2 q1 q2 a x1 x2 y1 y2) W)
    (hs1 : ∀ p r W K, W.heap[p]? = some (.cells z T (0, 0)) → K (fill4 d1 d2 q1 q2 a v1 v2 (.pointer (some ⟨p, 0, none⟩)) (.pointer (some ⟨r, 0, none⟩))) (W.setRow p r1) → wpOp P ops Q s1 K (fill4 d1 d2 q1 q2 a v1 v2 (.pointer (some ⟨p, 0, none⟩)) (.pointer (some ⟨r, 0, none⟩))) W)
    (hs2 : ∀ p r W K, W.heap[r]? = some (.cells z T (0, 0)) → K (fill4 d1 d2 q1 q2 a v1 v2 (.pointer (some ⟨p, 0, none⟩)) (.pointer (some ⟨r, 0, none⟩))) (W.setRow r r2) → wpOp P ops Q s2 K (fill4 d1 d2 q1 q2 a v1 v2 (.pointer (some ⟨p, 0, none⟩)) (.pointer (some ⟨r, 0, none⟩))) W)
    (hQ : ∀ p r W, wo.heap.size ≤ p → wo.heap.size ≤ r → p ≠ r → W.heap[p]? = some (.cells z T (0, 0)) → W.heap[r]? = some (.cells z T (0, 0)) → Below wo.heap.size wo W → Q .normal (fill4 d1 d2 q1 q2 a v1 v2 (.pointer (some ⟨p, 0, none⟩)) (.pointer (some ⟨r, 0, none⟩))) ((W.setRow p r1).setRow r r2)) :
    ∀ (n : Nat) (b1 b2 e1 e2 : Bool) (x1 x2 y1 y2 : Value) (W : World), (b2 = true → b1 = true) → left4 b1 b2 e1 e2 = n → Below wo.heap.size wo W → (b1 = true → x1 = v1) → (b2 = true → x2 = v2) →
      (e1 = true → ∃ p, y1 = .pointer (some ⟨p, 0, none⟩) ∧ wo.heap.size ≤ p ∧ W.heap[p]? = some (.cells z T (0, 0))) →
      (e2 = true → ∃ r, y2 = .pointer (some ⟨r, 0, none⟩) ∧ wo.heap.size ≤ r ∧ W.heap[r]? = some (.cells z T (0, 0))) →
      (e1 = true → e2 = true → y1 ≠ y2) → wpAnyH P md ops Q S (n + 2) (M b1 b2 e1 e2) (fill4 d1 d2 q1 q2 a x1 x2 y1 y2) W := by
  intro n
  induction n with
  | zero =>
    intro b1 b2 e1 e2 x1 x2 y1 y2 W hbb hn hb h1 h2 h3 h4 h5
    have hall : b1 = true ∧ b2 = true ∧ e1 = true ∧ e2 = true := by
      unfold left4 at hn
      cases b1 <;> cases b2 <;> cases e1 <;> cases e2 <;> first | exact ⟨rfl, rfl, rfl, rfl⟩ | exact absurd hn (by decide)
    obtain ⟨rfl, rfl, rfl, rfl⟩ := hall
    obtain rfl := h1 rfl
    obtain rfl := h2 rfl
    obtain ⟨p, rfl, hp, hP⟩ := h3 rfl
    obtain ⟨r, rfl, hrr, hR⟩ := h4 rfl
    have hpr : p ≠ r := fun e => h5 rfl rfl (by rw [e])
    have hq := hQ p r W hp hrr hpr hP hR hb
    refine ⟨fun h => absurd h (hr true true true true (fun h => h)).1, fun i hi => ?_⟩
    rcases (hr true true true true (fun h => h)).2 i hi with h | h | h | h | h
    · simp at h
    · simp at h
    · simp at h
    · simp at h
    obtain ⟨rfl, _⟩ := h
    refine hs1 p r W _ hP ⟨hS _ (below_setRow hb hp _), ?_⟩
    refine ⟨fun h => by (rw [hr1] at h; cases h), fun j hj => ?_⟩
    rw [hr1] at hj
    obtain rfl : j = s2 := by simpa using hj
    refine hs2 p r _ _ ?_ ⟨hS _ (below_setRow (below_setRow hb hp _) hrr _), hr2, hq⟩
    rw [setRow_other _ _ _ _ (fun e => hpr e.symm)]; exact hR
  | succ n ih =>
    intro b1 b2 e1 e2 x1 x2 y1 y2 W hbb hn hb h1 h2 h3 h4 h5
    have hs := hb.size
    have lt3 : ∀ p : Nat, W.heap[p]? = some (.cells z T (0, 0)) → p < W.heap.size := fun p h => (Array.getElem?_eq_some_iff.1 h).1
    refine ⟨fun h => absurd h (hr b1 b2 e1 e2 hbb).1, fun i hi => ?_⟩
    rcases (hr b1 b2 e1 e2 hbb).2 i hi with ⟨rfl, rfl⟩ | ⟨rfl, rfl, rfl⟩ | ⟨rfl, rfl⟩ | ⟨rfl, rfl⟩ | ⟨rfl, rfl, rfl, rfl, rfl⟩
    · refine hc1 _ _ _ _ _ _ fun W' hw => ?_
      have hb' := hb.trans (hw.mono hs)
      refine ⟨hS _ hb', ?_⟩
      rw [hM1]
      refine ih true b2 e1 e2 _ _ _ _ _ (fun _ => rfl) (by unfold left4 at hn ⊢; simp at hn ⊢; omega) hb' (fun _ => rfl) h2 (fun h => ?_) (fun h => ?_) h5
      · obtain ⟨p, k1, k2, k3⟩ := h3 h
        exact ⟨p, k1, k2, by rw [hw.block p (lt3 p k3)]; exact k3⟩
      · obtain ⟨p, k1, k2, k3⟩ := h4 h
        exact ⟨p, k1, k2, by rw [hw.block p (lt3 p k3)]; exact k3⟩
    · refine hc2 _ _ _ _ _ _ fun W' hw => ?_
      have hb' := hb.trans (hw.mono hs)
      refine ⟨hS _ hb', ?_⟩
      rw [hM2]
      refine ih true true e1 e2 _ _ _ _ _ (fun _ => rfl) (by unfold left4 at hn ⊢; simp at hn ⊢; omega) hb' h1 (fun _ => rfl) (fun h => ?_) (fun h => ?_) h5
      · obtain ⟨p, k1, k2, k3⟩ := h3 h
        exact ⟨p, k1, k2, by rw [hw.block p (lt3 p k3)]; exact k3⟩
      · obtain ⟨p, k1, k2, k3⟩ := h4 h
        exact ⟨p, k1, k2, by rw [hw.block p (lt3 p k3)]; exact k3⟩
    · refine hp1 _ _ _ _ _ _ ?_
      have hb' := hb.alloc hs (.cells z T)
      refine ⟨hS _ hb', ?_⟩
      rw [hM3]
      refine ih b1 b2 true e2 _ _ _ _ _ hbb (by unfold left4 at hn ⊢; simp at hn ⊢; omega) hb' h1 h2 (fun _ => ⟨_, rfl, hs, heap_alloc_new W _⟩) (fun h => ?_) (fun _ h e => ?_)
      · obtain ⟨p, k1, k2, k3⟩ := h4 h
        exact ⟨p, k1, k2, blk_alloc k3 _⟩
      · obtain ⟨p, k1, k2, k3⟩ := h4 h
        have := lt3 p k3
        rw [k1] at e
        simp at e
        try omega
    · refine hp2 _ _ _ _ _ _ ?_
      have hb' := hb.alloc hs (.cells z T)
      refine ⟨hS _ hb', ?_⟩
      rw [hM4]
      refine ih b1 b2 e1 true _ _ _ _ _ hbb (by unfold left4 at hn ⊢; simp at hn ⊢; omega) hb' h1 h2 (fun h => ?_) (fun _ => ⟨_, rfl, hs, heap_alloc_new W _⟩) (fun h _ e => ?_)
      · obtain ⟨p, k1, k2, k3⟩ := h3 h
        exact ⟨p, k1, k2, blk_alloc k3 _⟩
      · obtain ⟨p, k1, k2, k3⟩ := h3 h
        have := lt3 p k3
        rw [k1] at e
        simp at e
        try omega
    · unfold left4 at hn
      simp at hn
theorem drawn_from (d1 d2 q1 q2 c1 c2 p1 p2 s1 s2 : Nat) {wo : World} {z r1 r2 : Array Value} {T : TypeId} (v1 v2 : Value) (M : Bool → Bool → Bool → Bool → Array Bool) {a : Act} {w : World} {L : Array Bool}
    (hS : ∀ W, Below wo.heap.size wo W → S W)
    (hM1 : ∀ b2 e1 e2, (M false b2 e1 e2).setIfInBounds c1 true = M true b2 e1 e2)
    (hM2 : ∀ b1 e1 e2, (M b1 false e1 e2).setIfInBounds c2 true = M b1 true e1 e2)
    (hM3 : ∀ b1 b2 e2, (M b1 b2 false e2).setIfInBounds p1 true = M b1 b2 true e2)
    (hM4 : ∀ b1 b2 e1, (M b1 b2 e1 false).setIfInBounds p2 true = M b1 b2 e1 true)
    (hr : readyAll md ops M c1 c2 p1 p2 s1 = true)
    (hr1 : Region.ready md ops ((M true true true true).setIfInBounds s1 true) = [s2])
    (hr2 : Region.ready md ops (((M true true true true).setIfInBounds s1 true).setIfInBounds s2 true) = [])
    (hc1 : ∀ x1 x2 y1 y2 W K, (∀ W', Below W.heap.size W W' → K (fill4 d1 d2 q1 q2 a v1 x2 y1 y2) W') → wpOp P ops Q c1 K (fill4 d1 d2 q1 q2 a x1 x2 y1 y2) W)
    (hc2 : ∀ x1 x2 y1 y2 W K, (∀ W', Below W.heap.size W W' → K (fill4 d1 d2 q1 q2 a x1 v2 y1 y2) W') → wpOp P ops Q c2 K (fill4 d1 d2 q1 q2 a x1 x2 y1 y2) W)
    (hp1 : ∀ x1 x2 y1 y2 W K, K (fill4 d1 d2 q1 q2 a x1 x2 (.pointer (some ⟨W.heap.size, 0, none⟩)) y2) (W.alloc (.cells z T)) → wpOp P ops Q p1 K (fill4 d1 d2 q1 q2 a x1 x2 y1 y2) W)
    (hp2 : ∀ x1 x2 y1 y2 W K, K (fill4 d1 d2 q1 q2 a x1 x2 y1 (.pointer (some ⟨W.heap.size, 0, none⟩))) (W.alloc (.cells z T)) → wpOp P ops Q p2 K (fill4 d1 d2 q1 q2 a x1 x2 y1 y2) W)
    (hs1 : ∀ p r W K, W.heap[p]? = some (.cells z T (0, 0)) → K (fill4 d1 d2 q1 q2 a v1 v2 (.pointer (some ⟨p, 0, none⟩)) (.pointer (some ⟨r, 0, none⟩))) (W.setRow p r1) → wpOp P ops Q s1 K (fill4 d1 d2 q1 q2 a v1 v2 (.pointer (some ⟨p, 0, none⟩)) (.pointer (some ⟨r, 0, none⟩))) W)
    (hs2 : ∀ p r W K, W.heap[r]? = some (.cells z T (0, 0)) → K (fill4 d1 d2 q1 q2 a v1 v2 (.pointer (some ⟨p, 0, none⟩)) (.pointer (some ⟨r, 0, none⟩))) (W.setRow r r2) → wpOp P ops Q s2 K (fill4 d1 d2 q1 q2 a v1 v2 (.pointer (some ⟨p, 0, none⟩)) (.pointer (some ⟨r, 0, none⟩))) W)
    (hQ : ∀ p r W, wo.heap.size ≤ p → wo.heap.size ≤ r → p ≠ r → W.heap[p]? = some (.cells z T (0, 0)) → W.heap[r]? = some (.cells z T (0, 0)) → Below wo.heap.size wo W → Q .normal (fill4 d1 d2 q1 q2 a v1 v2 (.pointer (some ⟨p, 0, none⟩)) (.pointer (some ⟨r, 0, none⟩))) ((W.setRow p r1).setRow r r2))
    (hL : L = M false false false false) (hw : Below wo.heap.size wo w) : wpAnyH P md ops Q S 6 L a w := by
  subst hL
  rw [← fill4_self d1 d2 q1 q2 a]
  exact drawn_two hS hM1 hM2 hM3 hM4 (readyAll_spec hr) hr1 hr2 hc1 hc2 hp1 hp2 hs1 hs2 hQ 4 false false false false _ _ _ _ w (fun h => h) rfl hw (fun h => by cases h) (fun h => by cases h) (fun h => by cases h) (fun h => by cases h) (fun h => by cases h)
end
end Go.Proofs.Ytiikeilpgajmfaa
