/- Order, the plain law: the visit. -/
import Derived.Test.YtelpnbjnjfajdaaOdr2
namespace Go.Proofs.Ytelpnbjnjfajdaa
open Go.RowKit Go.Waf
set_option linter.unusedVariables false

structure St where
  on : Nat → Bool
  out : List Nat
def upd (f : Nat → Bool) (i : Nat) : Nat → Bool := fun j => if j = i then true else f j
def St.mark (s : St) (i : Nat) : St := ⟨upd s.on i, s.out⟩
def St.done (s : St) (i : Nat) : St := ⟨s.on, s.out ++ [i]⟩
def visL (step : St → Nat → Bool × St) (idx : ByteArray → Nat) : List ByteArray → St → Bool × St
  | [], s => (true, s)
  | x :: t, s => if (step s (idx x)).1 = true then visL step idx t (step s (idx x)).2 else (false, (step s (idx x)).2)
def idxN (M : Nat → Md) (n : Nat) (x : ByteArray) : Nat := (atN M n x).toNat
def vis (M : Nat → Md) (n : Nat) : Nat → St → Nat → Bool × St
  | 0, s, i => (decide (i ∈ s.out), s)
  | f + 1, s, i => if i ∈ s.out then (true, s) else if s.on i = true then (false, s) else
    if (visL (vis M n f) (idxN M n) (needsOf (M i).imps) (s.mark i)).1 = true then (true, (visL (vis M n f) (idxN M n) (needsOf (M i).imps) (s.mark i)).2.done i)
    else (false, (visL (vis M n f) (idxN M n) (needsOf (M i).imps) (s.mark i)).2)
def free (on : Nat → Bool) : Nat → Nat
  | 0 => 0
  | n + 1 => free on n + if on n = true then 0 else 1
theorem free_le (on : Nat → Bool) : ∀ n, free on n ≤ n
  | 0 => Nat.le_refl _
  | n + 1 => by have := free_le on n; unfold free; split <;> omega
theorem free_upd_out (on : Nat → Bool) (i : Nat) : ∀ n, n ≤ i → free (upd on i) n = free on n
  | 0, _ => rfl
  | n + 1, h => by
    unfold free
    rw [free_upd_out on i n (by omega)]
    have : upd on i n = on n := by unfold upd; rw [if_neg (by omega)]
    rw [this]
theorem free_upd (on : Nat → Bool) (i : Nat) (h : on i = false) : ∀ n, i < n → free (upd on i) n + 1 = free on n
  | 0, hi => absurd hi (by omega)
  | n + 1, hi => by
    unfold free
    by_cases he : i = n
    · subst he
      rw [free_upd_out on i i (Nat.le_refl _)]
      have : upd on i i = true := by unfold upd; rw [if_pos rfl]
      rw [this, h]; simp
    · have : upd on i n = on n := by unfold upd; rw [if_neg (by omega)]
      rw [this]
      have := free_upd on i h n (by omega)
      omega
theorem atF_lt (M : Nat → Md) (s : ByteArray) : ∀ f k, atF M s f k < ((f + k : Nat) : Int)
  | 0, k => by unfold atF; omega
  | f + 1, k => by
    unfold atF
    split
    · omega
    · have := atF_lt M s f (k + 1); omega
theorem atF_ge (M : Nat → Md) (s : ByteArray) : ∀ f k, -1 ≤ atF M s f k
  | 0, k => by unfold atF; omega
  | f + 1, k => by
    unfold atF
    split
    · omega
    · exact atF_ge M s f (k + 1)
theorem atN_lt (M : Nat → Md) (n : Nat) (s : ByteArray) : atN M n s < (n : Int) := atF_lt M s n 0
theorem atN_ge (M : Nat → Md) (n : Nat) (s : ByteArray) : -1 ≤ atN M n s := atF_ge M s n 0
/-- All that is needed is there. -/
def All (M : Nat → Md) (n : Nat) : Prop := ∀ i, i < n → ∀ x ∈ needsOf (M i).imps, 0 ≤ atN M n x
theorem All.idx {M : Nat → Md} {n : Nat} (h : All M n) {i : Nat} (hi : i < n) : ∀ x ∈ needsOf (M i).imps, idxN M n x < n := fun x hx => by
  have h1 := h i hi x hx
  have h2 := atN_lt M n x
  unfold idxN; omega
structure Meas (n : Nat) (s s' : St) : Prop where
  free : free s'.on n ≤ free s.on n
  room : s'.out.length + Proofs.Ytelpnbjnjfajdaa.free s'.on n ≤ s.out.length + Proofs.Ytelpnbjnjfajdaa.free s.on n
theorem Meas.refl (n : Nat) (s : St) : Meas n s s := ⟨Nat.le_refl _, Nat.le_refl _⟩
theorem Meas.trans {n : Nat} {a b c : St} (h : Meas n a b) (k : Meas n b c) : Meas n a c := ⟨Nat.le_trans k.free h.free, Nat.le_trans k.room h.room⟩
theorem visL_meas {n : Nat} {step : St → Nat → Bool × St} {idx : ByteArray → Nat} (hs : ∀ s i, i < n → Meas n s (step s i).2) : ∀ (L : List ByteArray) (s : St), (∀ x ∈ L, idx x < n) → Meas n s (visL step idx L s).2
  | [], s, _ => Meas.refl _ _
  | x :: t, s, h => by
    unfold visL
    have h1 := hs s (idx x) (h x (by simp))
    split
    · exact h1.trans (visL_meas hs t _ fun y hy => h y (by simp [hy]))
    · exact h1
theorem vis_meas {M : Nat → Md} {n : Nat} (hA : All M n) : ∀ (f : Nat) (s : St) (i : Nat), i < n → Meas n s (vis M n f s i).2
  | 0, s, i, _ => Meas.refl _ _
  | f + 1, s, i, hi => by
    unfold vis
    split
    · exact Meas.refl _ _
    · split
      · exact Meas.refl _ _
      · rename_i hon
        have h1 := visL_meas (idx := idxN M n) (vis_meas hA f) (needsOf (M i).imps) (s.mark i) (hA.idx hi)
        have h2 := free_upd s.on i (by simpa using hon) n hi
        have h3 := h1.free
        have h4 := h1.room
        simp only [St.mark] at h3 h4
        split
        · refine ⟨by simp only [St.done]; simp only [St.mark]; omega, ?_⟩
          simp only [St.done, St.mark, List.length_append, List.length_cons, List.length_nil]
          omega
        · exact ⟨by simp only [St.mark]; omega, by simp only [St.mark]; omega⟩
theorem visL_snoc (step : St → Nat → Bool × St) (idx : ByteArray → Nat) (x : ByteArray) (t : List ByteArray) : ∀ (a : List ByteArray) (s s' : St), visL step idx a s = (true, s') →
    visL step idx (a ++ x :: t) s = visL step idx (x :: t) s'
  | [], s, s', h => by simp only [visL, Prod.mk.injEq, true_and] at h; rw [h]; rfl
  | y :: a, s, s', h => by
    unfold visL at h
    split at h
    · rename_i hy
      have := visL_snoc step idx x t a _ s' h
      show visL step idx (y :: (a ++ x :: t)) s = _
      conv => lhs; unfold visL
      rw [if_pos hy, this]
    · simp at h
theorem visL_next {step : St → Nat → Bool × St} {idx : ByteArray → Nat} {L : List ByteArray} {k : Nat} {s s' : St} (hk : k < L.length) (h : visL step idx (L.take k) s = (true, s')) (h1 : (step s' (idx (L.getD k ByteArray.empty))).1 = true) :
    visL step idx (L.take (k + 1)) s = (true, (step s' (idx (L.getD k ByteArray.empty))).2) := by
  have e : L.take (k + 1) = L.take k ++ [L.getD k ByteArray.empty] := by
    rw [List.take_add_one]; simp [hk]
  rw [e, visL_snoc step idx _ [] _ _ _ h]
  unfold visL
  rw [if_pos h1]; rfl
theorem visL_stop {step : St → Nat → Bool × St} {idx : ByteArray → Nat} {L : List ByteArray} {k : Nat} {s s' : St} (hk : k < L.length) (h : visL step idx (L.take k) s = (true, s')) (h1 : (step s' (idx (L.getD k ByteArray.empty))).1 = false) :
    visL step idx L s = (false, (step s' (idx (L.getD k ByteArray.empty))).2) := by
  have e : L = L.take k ++ L.getD k ByteArray.empty :: L.drop (k + 1) := by
    conv => lhs; rw [← List.take_append_drop k L]
    rw [List.drop_eq_getElem_cons hk]; simp [hk]
  conv => lhs; rw [e]
  rw [visL_snoc step idx _ _ _ _ _ h]
  unfold visL
  rw [h1]; simp
theorem mem_getD {L : List ByteArray} {k : Nat} (hk : k < L.length) : L.getD k ByteArray.empty ∈ L := by simp [hk]
end Go.Proofs.Ytelpnbjnjfajdaa
