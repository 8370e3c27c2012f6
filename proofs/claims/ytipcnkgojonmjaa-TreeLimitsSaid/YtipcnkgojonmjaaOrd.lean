/- A region that draws its order: a condition on the world that is held only till one operation has come up. -/
import Derived.OrdersHeld
import Derived.StillTail
import Derived.Deep.RegionHeld3
namespace Go.Waf

section
variable {P : Program} {ops : Array Oper} {Q : Exit → Act → World → Prop} {md : Region.Mode} {S : World → Prop} {st : Nat}

/-- S is asked for as long as operation st has not come up. -/
def Till (st : Nat) (S : World → Prop) (L : Array Bool) (w : World) : Prop := L.getD st false = false → S w
/-- What has come up is closed: all that it waits for has come up. -/
def Closed (md : Region.Mode) (ops : Array Oper) (L : Array Bool) : Prop := ∀ j oj, ops[j]? = some oj → L.getD j false = true → ∀ e ∈ oj.after, Region.binds md e = true → L.getD e.on false = true
theorem Closed.set {L : Array Bool} {i : Nat} (h : Closed md ops L) (hi : i ∈ Region.ready md ops L) : Closed md ops (L.setIfInBounds i true) := by
  obtain ⟨_, oi, hoi, hall⟩ := mem_ready.1 hi
  intro j oj hj hl e he hb
  by_cases hij : i = j
  · subst hij
    have : oj = oi := Option.some.inj (hj.symm.trans hoi)
    subst this
    exact getD_set_true (hall e he hb)
  · rw [getD_set_ne false hij] at hl
    exact getD_set_true (h j oj hj hl e he hb)
/-- What waits for i, by others, among the first n. -/
def reachL (md : Region.Mode) (ops : Array Oper) (i : Nat) : Nat → List Nat
  | 0 => [i]
  | n + 1 =>
    match ops[n]? with
    | some o => if o.after.any (fun e => Region.binds md e && (reachL md ops i n).contains e.on) then n :: reachL md ops i n else reachL md ops i n
    | none => reachL md ops i n
def reachB (md : Region.Mode) (ops : Array Oper) (i st : Nat) : Bool := (reachL md ops i (st + 1)).contains st
theorem reachL_spec {L : Array Bool} (hc : Closed md ops L) {i : Nat} : ∀ (n j : Nat), j ∈ reachL md ops i n → L.getD j false = true → L.getD i false = true
  | 0, j, h, hl => by
    have : j = i := by simpa [reachL] using h
    rw [← this]; exact hl
  | n + 1, j, h, hl => by
    unfold reachL at h
    split at h
    · rename_i o ho
      split at h
      · rename_i hany
        rcases List.mem_cons.1 h with h | h
        · subst h
          obtain ⟨e, he, hb⟩ := Array.any_eq_true'.1 hany
          simp only [Bool.and_eq_true, List.contains_eq_mem, decide_eq_true_eq] at hb
          exact reachL_spec hc _ e.on hb.2 (hc _ o ho hl e he hb.1)
        · exact reachL_spec hc n j h hl
      · exact reachL_spec hc n j h hl
    · exact reachL_spec hc n j h hl
theorem reach_spec {L : Array Bool} (hc : Closed md ops L) {i st : Nat} (h : reachB md ops i st = true) (hl : L.getD st false = true) : L.getD i false = true :=
  reachL_spec hc (st + 1) st (by simpa [reachB] using h) hl

/-- Whatever order is picked from here on, and S holds behind every operation, till st has come up. -/
def wpAnyT0 (P : Program) (md : Region.Mode) (ops : Array Oper) (Q : Exit → Act → World → Prop) (st : Nat) (S : World → Prop) : Nat → Array Bool → Act → World → Prop
  | 0, listed, a, w => Region.ready md ops listed = [] ∧ Q .normal a w
  | fuel + 1, listed, a, w =>
    (Region.ready md ops listed = [] → Q .normal a w) ∧
    ∀ i ∈ Region.ready md ops listed, wpOp P ops Q i (fun a' w' => Till st S (listed.setIfInBounds i true) w' ∧ wpAnyT0 P md ops Q st S fuel (listed.setIfInBounds i true) a' w') a w

theorem wpAny_of_till : ∀ (fuel : Nat) (listed : Array Bool) (a : Act) (w : World), wpAnyT0 P md ops Q st S fuel listed a w → wpAny P md ops Q fuel listed a w
  | 0, _, _, _, h => h
  | fuel + 1, _, _, _, h => ⟨h.1, fun i hi => wpOp_mono (fun a' w' h' => wpAny_of_till fuel _ a' w' h'.2) (h.2 i hi)⟩

theorem wpAnyT0_first {i : Nat} {oi : Oper} {v : Value} (hi : ops[i]? = some oi) (hsel : ∀ (j : Nat) (o : Oper) cs b, ops[j]? = some o → o.op ≠ .select cs b)
    (hQ : ∀ c a w, Q (.panic c) (a.put oi.dst v) w → Q (.panic c) a w) (hst : reachB md ops i st = true) (hne : i ≠ st) :
    ∀ (fuel : Nat) (listed : Array Bool) (a : Act) (w : World), Closed md ops listed →
      (∀ j oj, ops[j]? = some oj → j ≠ i → listed.getD j true = false → (∀ e ∈ oj.after, Region.binds md e = true → e.on ≠ i) → oi.apart ops oj = true) →
      i ∈ Region.ready md ops listed → YieldsIf P ops S oi v a → Till st S listed w →
      wpAnyT0 P md ops Q st S fuel (listed.setIfInBounds i true) (a.put oi.dst v) w → wpAnyT0 P md ops Q st S (fuel + 1) listed a w := by
  intro fuel
  have hno : ∀ (L : Array Bool), Closed md ops L → i ∈ Region.ready md ops L → L.getD st false = false := fun L hc hr => by
    cases hl : L.getD st false with
    | false => rfl
    | true =>
      have h1 := reach_spec hc hst hl
      rw [getD_both (mem_ready.1 hr).1] at h1
      cases h1
  have hsame : ∀ (L : Array Bool) (w : World), Till st S L w → Till st S (L.setIfInBounds i true) w := fun L w h h1 => h (by rw [getD_set_ne false hne] at h1; exact h1)
  have hback : ∀ (L : Array Bool) (w : World), Till st S (L.setIfInBounds i true) w → Till st S L w := fun L w h h1 => h (by rw [getD_set_ne false hne]; exact h1)
  induction fuel with
  | zero =>
    intro listed a w hc _ hr hy hS H
    refine ⟨fun h => (by rw [h] at hr; cases hr), fun j hj => ?_⟩
    by_cases hji : j = i
    · subst hji; exact hy.wpOp hi (hS (hno _ hc hr)) ⟨hsame _ _ hS, H⟩
    · have := ready_mono hj hji
      rw [H.1] at this
      cases this
  | succ fuel ih =>
    intro listed a w hc hfree hr hy hS H
    refine ⟨fun h => (by rw [h] at hr; cases hr), fun j hj => ?_⟩
    by_cases hji : j = i
    · subst hji; exact hy.wpOp hi (hS (hno _ hc hr)) ⟨hsame _ _ hS, H⟩
    · have h1 := H.2 j (ready_mono hj hji)
      obtain ⟨hjun, oj, hoj, hall⟩ := mem_ready.1 hj
      have hnot : ∀ e ∈ oj.after, Region.binds md e = true → e.on ≠ i := fun e he hb heq => by
        have h1 := hall e he hb
        rw [heq, getD_both (mem_ready.1 hr).1] at h1
        cases h1
      have h2 := wpOp_putIf hoj (hfree j oj hoj hji hjun hnot) (fun cs b => hsel i oi cs b hi) (fun cs b => hsel j oj cs b hoj) hQ hy h1
      have hfree' : ∀ k ok, ops[k]? = some ok → k ≠ i → (listed.setIfInBounds j true).getD k true = false →
          (∀ e ∈ ok.after, Region.binds md e = true → e.on ≠ i) → oi.apart ops ok = true := fun k ok hk hki hun hno => by
        refine hfree k ok hk hki ?_ hno
        by_cases hjk : j = k
        · subst hjk; exact hjun
        · rw [getD_set_ne true hjk] at hun; exact hun
      refine wpOp_mono (fun a' w' h3 => ?_) h2
      obtain ⟨hy', hT, H'⟩ := h3
      rw [Array.setIfInBounds_comm _ _ (Ne.symm hji)] at hT H'
      have hT' := hback _ _ hT
      exact ⟨hT', ih (listed.setIfInBounds j true) a' w' (hc.set hj) hfree' (ready_mono hr (Ne.symm hji)) hy' hT' H'⟩

/-- The same, of what has come up so far as the region lets it. -/
def wpAnyT (P : Program) (md : Region.Mode) (ops : Array Oper) (Q : Exit → Act → World → Prop) (st : Nat) (S : World → Prop) (fuel : Nat) (listed : Array Bool) (a : Act) (w : World) : Prop := Closed md ops listed → wpAnyT0 P md ops Q st S fuel listed a w
theorem wpAnyT_take {i : Nat} {oi : Oper} {v : Value} {fuel : Nat} {listed : Array Bool} {a : Act} {w : World} (hi : ops[i]? = some oi)
    (hs : Region.noSelect ops = true) (hf : Region.free md ops listed i = true) (hr : (Region.ready md ops listed).contains i = true)
    (hB : (reachB md ops i st && decide (i ≠ st)) = true)
    (hQ : ∀ c a w, Q (.panic c) (a.put oi.dst v) w → Q (.panic c) a w) (hy : YieldsIf P ops S oi v a) (hS : S w)
    (h : wpAnyT P md ops Q st S fuel (listed.setIfInBounds i true) (a.put oi.dst v) w) : wpAnyT P md ops Q st S (fuel + 1) listed a w := by
  intro hc
  simp only [Bool.and_eq_true, decide_eq_true_eq] at hB
  have hr' : i ∈ Region.ready md ops listed := by simpa using hr
  exact wpAnyT0_first hi (Region.noSelect_spec hs) hQ hB.1 hB.2 fuel listed a w hc (Region.free_spec hi hf) hr' hy (fun _ => hS) (h (hc.set hr'))

/-- One operation alone may come up, ahead of st: S is to be shown behind it. -/
theorem wpAnyT_one {i : Nat} {oi : Oper} {fuel : Nat} {listed : Array Bool} {a : Act} {w : World} (hi : ops[i]? = some oi) (hr : Region.ready md ops listed = [i])
    (h : ∀ K : Act → World → Prop, Shut (∀ a' w', S w' → wpAnyT P md ops Q st S fuel (listed.setIfInBounds i true) a' w' → K a' w') → if Region.wanted oi (yielded ops a.tmps) = true then Oper.wp P oi a w K Q else K (a.put oi.dst undef) w) : wpAnyT P md ops Q st S (fuel + 1) listed a w := by
  intro hc
  refine ⟨fun h0 => (by rw [hr] at h0; cases h0), fun j hj => ?_⟩
  have hc' := hc.set hj
  rw [hr] at hj
  obtain rfl : j = i := by simpa using hj
  exact wpOp_step hi fun K' hK => h K' fun a' w' hS hw => hK a' w' ⟨fun _ => hS, hw hc'⟩
/-- The same, st itself, or behind it: nothing is asked any more. -/
theorem wpAnyT_late {i : Nat} {oi : Oper} {fuel : Nat} {listed : Array Bool} {a : Act} {w : World} (hi : ops[i]? = some oi) (hr : Region.ready md ops listed = [i]) (hl : (listed.setIfInBounds i true).getD st false = true)
    (h : ∀ K : Act → World → Prop, Shut (∀ a' w', wpAnyT P md ops Q st S fuel (listed.setIfInBounds i true) a' w' → K a' w') → if Region.wanted oi (yielded ops a.tmps) = true then Oper.wp P oi a w K Q else K (a.put oi.dst undef) w) : wpAnyT P md ops Q st S (fuel + 1) listed a w := by
  intro hc
  refine ⟨fun h0 => (by rw [hr] at h0; cases h0), fun j hj => ?_⟩
  have hc' := hc.set hj
  rw [hr] at hj
  obtain rfl : j = i := by simpa using hj
  exact wpOp_step hi fun K' hK => h K' fun a' w' hw => hK a' w' ⟨fun h0 => (by rw [hl] at h0; cases h0), hw hc'⟩
theorem wpAnyT_done {listed : Array Bool} {a : Act} {w : World} (hr : Region.ready md ops listed = []) (h : Q .normal a w) :
    ∀ fuel, wpAnyT P md ops Q st S fuel listed a w
  | 0 => fun _ => ⟨hr, h⟩
  | _ + 1 => fun _ => ⟨fun _ => h, by rw [hr]; simp⟩
/-- st comes up now, and what is left has one order: as a plain list. -/
theorem wpAnyT_of_seq : ∀ (l : List Oper) (k : Nat) (listed : Array Bool) (a : Act) (w : World), (∀ j, l[j]? = ops[k + j]?) → k + l.length ≤ listed.size →
    Region.seqB md ops l.length k listed = true → (listed.getD st false = true ∨ st = k) → wpList P ops Q l a w → wpAnyT0 P md ops Q st S l.length listed a w
  | [], k, listed, a, w, hl, hz, hB, hs, h => ⟨by simpa [Region.seqB] using hB, h⟩
  | o :: l, k, listed, a, w, hl, hz, hB, hs, h => by
    have h0 : ops[k]? = some o := by simpa using (hl 0).symm
    simp only [List.length_cons, Region.seqB, Bool.and_eq_true, decide_eq_true_eq] at hB
    have hs' : (listed.setIfInBounds k true).getD st false = true := by
      rcases hs with hs | rfl
      · exact getD_set_true hs
      · have : st < listed.size := by simp at hz; omega
        simp [this]
    refine ⟨fun h1 => (by rw [hB.1] at h1; cases h1), fun i hi => ?_⟩
    rw [hB.1] at hi
    obtain rfl : i = k := by simpa using hi
    have hw : wpOp P ops Q i (wpList P ops Q l) a w := by unfold wpOp; simp only [h0]; exact h
    refine wpOp_mono (fun a' w' h' => ⟨fun h2 => (by rw [hs'] at h2; cases h2), wpAnyT_of_seq l (i + 1) _ a' w' (fun j => by have := hl (j + 1); simpa [Nat.add_assoc, Nat.add_comm 1 j] using this) (by simp at hz ⊢; omega) hB.2 (.inl hs') h'⟩) hw
theorem wpAnyT_tail {fuel : Nat} {listed : Array Bool} {a : Act} {w : World} (k : Nat) (l : List Oper) (hl : l = ops.toList.drop k) (hf : fuel = l.length) (hz : listed.size = ops.size) (hk : k ≤ ops.size) (hB : Region.seqB md ops l.length k listed = true) (hs : st = k) (h : wpList P ops Q l a w) : wpAnyT P md ops Q st S fuel listed a w := by
  intro _
  subst hf hl
  exact wpAnyT_of_seq _ k listed a w (fun j => by simp [List.getElem?_drop]) (by simp; omega) hB (.inr hs) h
theorem closed_none (n : Nat) : Closed md ops (Array.replicate n false) := fun j oj _ hl => by rw [getD_replicate_false] at hl; cases hl
theorem wp_region_till {id : Nat} {a : Act} {w : World} (st : Nat) (S : World → Prop) (hm : P.follows .mixedOrders = true)
    (h : wpAnyT P .any ops Q st S ops.size (Array.replicate ops.size false) a w.drew) : (Code.region id ops true).wp P Q a w :=
  wp_region_any hm (wpAny_of_till _ _ _ _ (h (closed_none _)))
end
end Go.Waf
