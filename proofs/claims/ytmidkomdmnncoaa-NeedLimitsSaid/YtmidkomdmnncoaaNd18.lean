/- A region that draws its order: each operation but the last leaves a fact that what is new keeps; the last waits for all. All orders at once. -/
import Derived.Test.YtmidkomdmnncoaaNd16
import Derived.Orders
namespace Go.Proofs.Ytmidkomdmnncoaa
open Go.RowKit Go.Waf
set_option linter.unusedVariables false

section
variable {P : Program} {ops : Array Oper} {Q : Exit → Act → World → Prop} {md : Region.Mode}

def upd (x : Nat → Value) (j : Nat) (v : Value) (i : Nat) : Value := bif i == j then v else x i
theorem upd_same (x : Nat → Value) (j : Nat) (v : Value) : upd x j v j = v := by simp [upd]
theorem upd_other (x : Nat → Value) {j i : Nat} (v : Value) (h : i ≠ j) : upd x j v i = x i := by
  unfold upd
  rw [show (i == j) = false from beq_false_of_ne h]; rfl
/-- Operation j waits for p. -/
def waits (md : Region.Mode) (ops : Array Oper) (j p : Nat) : Bool := match ops[j]? with
  | some o => o.after.any fun e => Nat.beq e.on p && Region.binds md e
  | none => false
/-- Each waits for lower ones alone. -/
def lowOk (ops : Array Oper) : Bool := (List.range ops.size).all fun j => match ops[j]? with
  | some o => o.after.all fun e => decide (e.on < j)
  | none => true
def allWait (md : Region.Mode) (ops : Array Oper) (N : Nat) : Bool := (List.range N).all fun i => waits md ops N i
def und (L : Array Bool) : Nat → Nat
  | 0 => 0
  | k + 1 => und L k + (bif L.getD k false then 0 else 1)
theorem getD_same (L : Array Bool) (i : Nat) (h : i < L.size) (d : Bool) : (L.setIfInBounds i true).getD i d = true := by
  simp [Array.getD, h]
theorem getD_any (L : Array Bool) (i : Nat) (h : i < L.size) (d e : Bool) : L.getD i d = L.getD i e := by
  simp [Array.getD, h]
theorem und_keep (L : Array Bool) (i : Nat) : ∀ k, k ≤ i → und (L.setIfInBounds i true) k = und L k
  | 0, _ => rfl
  | k + 1, h => by
    unfold und
    rw [und_keep L i k (by omega), getD_set_ne false (by omega)]
theorem und_set (L : Array Bool) (i : Nat) (hs : i < L.size) (hf : L.getD i false = false) : ∀ k, i < k → und (L.setIfInBounds i true) k + 1 = und L k
  | 0, h => absurd h (by omega)
  | k + 1, h => by
    unfold und
    by_cases e : i = k
    · subst e
      rw [und_keep L i i (Nat.le_refl _), getD_same L i hs, hf]; rfl
    · rw [getD_set_ne false e]
      have := und_set L i hs hf k (by omega)
      omega
theorem und_pos (L : Array Bool) (i : Nat) (hf : L.getD i false = false) : ∀ k, i < k → 1 ≤ und L k
  | 0, h => absurd h (by omega)
  | k + 1, h => by
    unfold und
    by_cases e : i = k
    · subst e; rw [hf]; simp
    · have := und_pos L i hf k (by omega)
      omega
theorem waits_done {L : Array Bool} {j p : Nat} (hj : j ∈ Region.ready md ops L) (hw : waits md ops j p = true) : L.getD p false = true := by
  obtain ⟨_, o, ho, ha⟩ := mem_ready.1 hj
  unfold waits at hw
  rw [ho] at hw
  obtain ⟨e, he, hb⟩ := Array.any_eq_true'.1 hw
  simp only [Bool.and_eq_true] at hb
  have h1 := ha e he hb.2
  rwa [Nat.eq_of_beq_eq_true hb.1] at h1
theorem ready_some {L : Array Bool} (hl : lowOk ops = true) (hz : L.size = ops.size) {m : Nat} (hm : m < ops.size) (hu : L.getD m false = false) : Region.ready md ops L ≠ [] := by
  have key : ∀ m, m < ops.size → L.getD m false = false → ∃ j, j ∈ Region.ready md ops L := by
    intro m
    induction m using Nat.strongRecOn with
    | _ m ih =>
    intro hm hu
    by_cases h : ∃ k, k < m ∧ L.getD k false = false
    · obtain ⟨k, hk, hku⟩ := h
      exact ih k hk (by omega) hku
    · refine ⟨m, mem_ready.2 ⟨by rw [getD_any L m (by omega) true false]; exact hu, ops[m], by simp [hm], fun e he _ => ?_⟩⟩
      have h2 := (List.all_eq_true.1 hl) m (List.mem_range.2 hm)
      rw [show ops[m]? = some ops[m] from by simp [hm]] at h2
      have h3 := (Array.all_eq_true'.1 h2) e he
      have h4 : e.on < m := of_decide_eq_true h3
      by_cases h5 : L.getD e.on false = true
      · exact h5
      · exact absurd ⟨e.on, h4, by simpa using h5⟩ h
  obtain ⟨j, hj⟩ := key m hm hu
  exact fun e => by rw [e] at hj; cases hj
theorem drawn_gen {N : Nat} {I : Array Bool → World → Prop} {R : Nat → World → World → Prop} (hI : ∀ L j W W', L.size = N + 1 → j < N → L.getD j false = false → I L W → R j W W' → I (L.setIfInBounds j true) W') (A : (Nat → Value) → Act) (ψ : Nat → Value → World → Prop) (hz : ops.size = N + 1) (hl : lowOk ops = true) (ha : allWait md ops N = true)
    (hst : ∀ i j v W W', i ≠ j → ψ i v W → R j W W' → ψ i v W')
    (hstep : ∀ j, j < N → ∀ L x W K, L.getD j false = false → I L W → (∀ p, waits md ops j p = true → ψ p (x p) W) → (∀ v W', ψ j v W' → R j W W' → K (A (upd x j v)) W') → wpOp P ops Q j K (A x) W)
    (hlast : ∀ L x W K, I L W → (∀ p, p < N → ψ p (x p) W) → (∀ a' W', Q .normal a' W' → K a' W') → wpOp P ops Q N K (A x) W) :
    ∀ n (L : Array Bool) x W, L.size = N + 1 → und L N = n → L.getD N false = false → I L W → (∀ i, i < N → L.getD i false = true → ψ i (x i) W) → wpAny P md ops Q (n + 1) L (A x) W := by
  have hw : ∀ p, p < N → waits md ops N p = true := fun p hp => (List.all_eq_true.1 ha) p (List.mem_range.2 hp)
  have core : ∀ n (L : Array Bool) x W, L.size = N + 1 → und L N = n → L.getD N false = false → I L W → (∀ i, i < N → L.getD i false = true → ψ i (x i) W) →
      (∀ i, i < N → i ∈ Region.ready md ops L → wpOp P ops Q i (wpAny P md ops Q n (L.setIfInBounds i true)) (A x) W) → wpAny P md ops Q (n + 1) L (A x) W := by
    intro n L x W hs hn hN hb hf hi
    refine ⟨fun h => absurd h (ready_some hl (by omega) (m := N) (by omega) hN), fun i hir => ?_⟩
    by_cases h : i < N
    · exact hi i h hir
    · have hsz : i < N + 1 := by
        obtain ⟨_, o, ho, _⟩ := mem_ready.1 hir
        have := (Array.getElem?_eq_some_iff.1 ho).1
        omega
      obtain rfl : i = N := by omega
      have hall : ∀ p, p < i → L.getD p false = true := fun p hp => waits_done hir (hw p hp)
      refine hlast L x W _ hb (fun p hp => hf p hp (hall p hp)) fun a' W' hq => ?_
      have hr : Region.ready md ops (L.setIfInBounds i true) = [] := by
        refine List.eq_nil_iff_forall_not_mem.2 fun j hj => ?_
        obtain ⟨hj1, o, ho, _⟩ := mem_ready.1 hj
        have hjs := (Array.getElem?_eq_some_iff.1 ho).1
        by_cases e : i = j
        · subst e
          rw [getD_same L i (by omega)] at hj1; cases hj1
        · rw [getD_set_ne true e, getD_any L j (by omega) true false, hall j (by omega)] at hj1; cases hj1
      exact wpAny_done hr hq n
  intro n
  induction n with
  | zero =>
    intro L x W hs hn hN hb hf
    refine core 0 L x W hs hn hN hb hf fun i h hir => ?_
    have h1 := (mem_ready.1 hir).1
    rw [getD_any L i (by omega) true false] at h1
    have := und_pos L i h1 N h
    omega
  | succ n ih =>
    intro L x W hs hn hN hb hf
    refine core (n + 1) L x W hs hn hN hb hf fun i h hir => ?_
    have h1 := (mem_ready.1 hir).1
    rw [getD_any L i (by omega) true false] at h1
    have hu := und_set L i (by omega) h1 N h
    refine hstep i h L x W _ h1 hb (fun p hp => ?_) fun v W' hv hbw => ?_
    · have hp2 := waits_done hir hp
      have hpl : p < N := by
        by_cases hpn : p < N
        · exact hpn
        · by_cases e : p = N
          · subst e; rw [hN] at hp2; cases hp2
          · rw [show L.getD p false = false from by simp [Array.getD]; omega] at hp2; cases hp2
      exact hf p hpl hp2
    · refine ih (L.setIfInBounds i true) (upd x i v) W' (by simpa using hs) (by omega) (by rw [getD_set_ne false (by omega)]; exact hN) (hI L i _ _ hs h h1 hb hbw) fun k hk hkd => ?_
      by_cases e : k = i
      · subst e; rw [upd_same]; exact hv
      · rw [upd_other x v e]
        rw [getD_set_ne false (fun h => e h.symm)] at hkd
        exact hst k i _ _ _ e (hf k hk hkd) hbw
theorem und_none (N : Nat) : ∀ k, k ≤ N → und (Array.replicate N false) k = k
  | 0, _ => rfl
  | k + 1, h => by
    unfold und
    rw [und_none N k (by omega), show (Array.replicate N false).getD k false = false from by simp [Array.getD]]; rfl
/-- A region that draws: from the world behind the draw. -/
theorem drawn_ops {N id : Nat} {a : Act} {w : World} {I : Array Bool → World → Prop} {R : Nat → World → World → Prop} (hI : ∀ L j W W', L.size = N + 1 → j < N → L.getD j false = false → I L W → R j W W' → I (L.setIfInBounds j true) W') (h0 : I (Array.replicate (N + 1) false) w.drew) (hm : P.follows .mixedOrders = true) (A : (Nat → Value) → Act) (x0 : Nat → Value) (ψ : Nat → Value → World → Prop) (hz : ops.size = N + 1) (hl : lowOk ops = true) (ha : allWait .any ops N = true) (hx : a = A x0)
    (hst : ∀ i j v W W', i ≠ j → ψ i v W → R j W W' → ψ i v W')
    (hstep : ∀ j, j < N → ∀ L x W K, L.getD j false = false → I L W → (∀ p, waits .any ops j p = true → ψ p (x p) W) → (∀ v W', ψ j v W' → R j W W' → K (A (upd x j v)) W') → wpOp P ops Q j K (A x) W)
    (hlast : ∀ L x W K, I L W → (∀ p, p < N → ψ p (x p) W) → (∀ a' W', Q .normal a' W' → K a' W') → wpOp P ops Q N K (A x) W) :
    (Code.region id ops true).wp P Q a w := by
  refine wp_region_any hm ?_
  rw [hz, hx]
  have h := drawn_gen (I := I) (R := R) hI A ψ hz hl ha hst hstep hlast N (Array.replicate (N + 1) false) x0 w.drew (by simp) (und_none (N + 1) N (by omega)) (by simp [Array.getD]) h0 (fun i hi h => by
    rw [show (Array.replicate (N + 1) false).getD i false = false from by simp [Array.getD]] at h; cases h)
  exact h
theorem drawn_any {N id : Nat} {a : Act} {w : World} {I : World → Prop} {R : World → World → Prop} (hI : ∀ W W', I W → R W W' → I W') (h0 : I w.drew) (hm : P.follows .mixedOrders = true) (A : (Nat → Value) → Act) (x0 : Nat → Value) (ψ : Nat → Value → World → Prop) (hz : ops.size = N + 1) (hl : lowOk ops = true) (ha : allWait .any ops N = true) (hx : a = A x0)
    (hst : ∀ i v W W', ψ i v W → R W W' → ψ i v W')
    (hstep : ∀ j, j < N → ∀ x W K, I W → (∀ p, waits .any ops j p = true → ψ p (x p) W) → (∀ v W', ψ j v W' → R W W' → K (A (upd x j v)) W') → wpOp P ops Q j K (A x) W)
    (hlast : ∀ x W K, I W → (∀ p, p < N → ψ p (x p) W) → (∀ a' W', Q .normal a' W' → K a' W') → wpOp P ops Q N K (A x) W) :
    (Code.region id ops true).wp P Q a w :=
  drawn_ops (I := fun _ => I) (R := fun _ => R) (fun _ _ W W' _ _ _ h k => hI W W' h k) h0 hm A x0 ψ hz hl ha hx (fun i _ v W W' _ h k => hst i v W W' h k) (fun j hj _ x W K _ h => hstep j hj x W K h) (fun _ x W K h => hlast x W K h)
theorem drawn_facts {N id : Nat} {a : Act} {w : World} (hm : P.follows .mixedOrders = true) (A : (Nat → Value) → Act) (x0 : Nat → Value) (ψ : Nat → Value → World → Prop) (hz : ops.size = N + 1) (hl : lowOk ops = true) (ha : allWait .any ops N = true) (hx : a = A x0)
    (hst : ∀ i v W W', ψ i v W → Below W.heap.size W W' → ψ i v W')
    (hstep : ∀ j, j < N → ∀ x W K, Below w.drew.heap.size w.drew W → (∀ p, waits .any ops j p = true → ψ p (x p) W) → (∀ v W', ψ j v W' → Below W.heap.size W W' → K (A (upd x j v)) W') → wpOp P ops Q j K (A x) W)
    (hlast : ∀ x W K, Below w.drew.heap.size w.drew W → (∀ p, p < N → ψ p (x p) W) → (∀ a' W', Q .normal a' W' → K a' W') → wpOp P ops Q N K (A x) W) :
    (Code.region id ops true).wp P Q a w :=
  drawn_any (I := fun W => Below w.drew.heap.size w.drew W) (R := fun W W' => Below W.heap.size W W') (fun W W' h k => h.trans (k.mono h.size)) (Below.refl _ _) hm A x0 ψ hz hl ha hx hst hstep hlast
end
end Go.Proofs.Ytmidkomdmnncoaa
