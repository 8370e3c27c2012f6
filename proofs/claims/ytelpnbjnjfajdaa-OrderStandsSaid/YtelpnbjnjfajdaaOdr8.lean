/- Order, plain: names one by one. -/
import Derived.Test.YtelpnbjnjfajdaaOdr7
namespace Go.Proofs.Ytelpnbjnjfajdaa
open Go.RowKit Go.Waf Go.Maps
set_option linter.unusedVariables false

theorem atF_succ (M : Nat → Md) (x : ByteArray) : ∀ (f k : Nat), atF M x (f + 1) k = if 0 ≤ atF M x f k then atF M x f k else if (M (k + f)).name.toList = x.toList then ((k + f : Nat) : Int) else -1
  | 0, k => by
    have e : atF M x 0 k = -1 := rfl
    rw [e, if_neg (by omega), atF, Nat.add_zero]
    rfl
  | f + 1, k => by
    rw [atF]
    by_cases h : (M k).name.toList = x.toList
    · have e : atF M x (f + 1) k = (k : Int) := by rw [atF, if_pos h]
      rw [if_pos h, e, if_pos (by omega)]
    · have e : atF M x (f + 1) k = atF M x f (k + 1) := by rw [atF, if_neg h]
      rw [if_neg h, e, atF_succ M x f (k + 1), show k + 1 + f = k + (f + 1) from by omega]
theorem atN_succ (M : Nat → Md) (n : Nat) (x : ByteArray) : atN M (n + 1) x = if 0 ≤ atN M n x then atN M n x else if (M n).name.toList = x.toList then (n : Int) else -1 := by
  unfold atN; rw [atF_succ, Nat.zero_add]
theorem atN_mono {M : Nat → Md} {x : ByteArray} {k : Nat} (h : 0 ≤ atN M k x) : ∀ d, atN M (k + d) x = atN M k x
  | 0 => rfl
  | d + 1 => by
    have := atN_mono h d
    rw [← Nat.add_assoc, atN_succ, this, if_pos h]
/-- A name that lies ahead of k too. -/
theorem not_once {M : Nat → Md} {n k : Nat} (hk : k < n) (h : 0 ≤ atN M k (M k).name) : ¬ Once M n := fun ho => by
  have h1 := atN_mono h (n - k)
  rw [show k + (n - k) = n from by omega, ho k hk] at h1
  have := atN_lt M k (M k).name
  omega
theorem once_of {M : Nat → Md} {n : Nat} (h : ∀ k, k < n → atN M k (M k).name < 0) : Once M n := fun k hk => by
  have e : atN M (k + 1) (M k).name = (k : Int) := by
    rw [atN_succ, if_neg (by have := h k hk; omega), if_pos rfl]
  have h1 := atN_mono (k := k + 1) (x := (M k).name) (by rw [e]; omega) (n - (k + 1))
  rw [show k + 1 + (n - (k + 1)) = n from by omega, e] at h1
  exact h1
structure MapK (M : Nat → Md) (k : Nat) (D : DataW Unit) : Prop where
  is : IsMap D
  at_ : ∀ x, 0 ≤ atN M k x → D.atKey (keyS x) (.lit (.int .i64 0)) = .lit (.int .i64 (atN M k x))
  has : ∀ x, Maps.has D (keyS x) = decide (0 ≤ atN M k x)
theorem MapK.start (M : Nat → Md) : MapK M 0 (.map []) := ⟨isMap_empty, fun x h => by
  have : atN M 0 x = -1 := rfl
  omega, fun x => by
  have : atN M 0 x = -1 := rfl
  rw [this]; rfl⟩
theorem keyS_eq {x y : ByteArray} : keyS x = keyS y ↔ x.toList = y.toList := by
  unfold keyS
  rw [ByteArray.toList_eq, ByteArray.toList_eq, Lit.string.injEq]
theorem MapK.next {M : Nat → Md} {k : Nat} {D : DataW Unit} (h : MapK M k D) (hn : atN M k (M k).name < 0) : MapK M (k + 1) (D.put (keyS (M k).name) (.lit (.int .i64 (k : Int)))) := by
  have hc : ∀ x : ByteArray, (M k).name.toList = x.toList → atN M k x < 0 := fun x hx => by
    have : ∀ f j, atF M x f j = atF M (M k).name f j := fun f => by
      induction f with
      | zero => intro j; rfl
      | succ f ih => intro j; unfold atF; rw [ih, hx]
    unfold atN at hn ⊢
    rw [this]; exact hn
  refine ⟨h.is.put _ _, fun x hx => ?_, fun x => ?_⟩
  · by_cases he : (M k).name.toList = x.toList
    · have hk := keyS_eq.2 he
      rw [← hk, atKey_put_same h.is (show WideAt.IsKeyLit (keyS _) from trivial), atN_succ, if_neg (by have := hc x he; omega), if_pos he]
    · rw [atKey_put_other (fun e => he (keyS_eq.1 e.symm))]
      rw [atN_succ] at hx ⊢
      by_cases h0 : 0 ≤ atN M k x
      · rw [if_pos h0]; exact h.at_ x h0
      · rw [if_neg h0, if_neg he] at hx; omega
  · by_cases he : (M k).name.toList = x.toList
    · have hk := keyS_eq.2 he
      rw [← hk, has_put_same h.is (show WideAt.IsKeyLit (keyS _) from trivial), atN_succ]
      have : 0 ≤ (if 0 ≤ atN M k x then atN M k x else if (M k).name.toList = x.toList then (k : Int) else -1) := by
        rw [if_neg (by have := hc x he; omega), if_pos he]; omega
      rw [decide_eq_true this]
    · rw [has_put_other (fun e => he (keyS_eq.1 e.symm)), h.has x, atN_succ]
      by_cases h0 : 0 ≤ atN M k x
      · rw [if_pos h0]
      · rw [if_neg h0, if_neg he]; simp [h0]
theorem MapK.ok {M : Nat → Md} {n : Nat} {D : DataW Unit} (h : MapK M n D) : MapOk M n D := fun x hx => h.at_ x hx
end Go.Proofs.Ytelpnbjnjfajdaa
