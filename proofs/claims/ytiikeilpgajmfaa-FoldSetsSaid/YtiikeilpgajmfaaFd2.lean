/- Fold: is it a constant; lists of them. -/
import Derived.Test.YtiikeilpgajmfaaFd1
import Derived.Shelf.Abstract
namespace Go.Proofs.Ytiikeilpgajmfaa
open Go.RowKit Go.Waf
set_option maxRecDepth 100000
set_option linter.unusedVariables false
set_option linter.unusedSimpArgs false

def isCb (o f : Int) : Bool := decide (o = 0 ∧ 1 ≤ f ∧ f ≤ 4)
def isC (e : Ex) : Bool := isCb e.op e.t.form
set_option maxHeartbeats 3200000 in
theorem is_prog (w : World) (e : Ex) (tv xv : Value) : Calls Try.prog 14 #[exV e tv xv] w fun en w' => en = .returned (.bool (isC e)) ∧ Below w.heap.size w w' := by
  unfold isC exV
  obtain ⟨o, ho⟩ : ∃ o, o = e.op := ⟨_, rfl⟩
  obtain ⟨f, hf⟩ : ∃ f, f = e.t.form := ⟨_, rfl⟩
  rw [← ho, ← hf]
  have HR := Lib.hid (show isCb o f = decide (o = 0 ∧ 1 ≤ f ∧ f ≤ 4) from rfl)
  clear ho hf
  by_cases h0 : o = 0
  · subst h0
    by_cases h1 : 1 ≤ f
    · by_cases h4 : f ≤ 4
      · have e1 : isCb 0 f = true := by rw [HR.out]; simp [h1, h4]
        rw [e1]
        clear e1
        go_enter Try.func14, Try.ntmps14
        go_wp2_with fail
        go_ret
        exact ⟨rfl, (Below.refl _ _).alloc (Nat.le_refl _) _⟩
      · have e1 : isCb 0 f = false := by rw [HR.out]; simp [h1, h4]
        rw [e1]
        clear e1
        go_enter Try.func14, Try.ntmps14
        go_wp2_with fail
        go_ret
        exact ⟨rfl, (Below.refl _ _).alloc (Nat.le_refl _) _⟩
    · have e1 : isCb 0 f = false := by rw [HR.out]; simp [h1]
      rw [e1]
      clear e1
      go_enter Try.func14, Try.ntmps14
      go_wp2_with fail
      go_ret
      exact ⟨rfl, (Below.refl _ _).alloc (Nat.le_refl _) _⟩
  · have e1 : isCb o f = false := by rw [HR.out]; simp [h0]
    rw [e1]
    clear e1
    go_enter Try.func14, Try.ntmps14
    go_wp2_with fail
    go_ret
    exact ⟨rfl, (Below.refl _ _).alloc (Nat.le_refl _) _⟩

set_option maxHeartbeats 3200000 in
theorem not_is (w : World) (e : Ex) (tv xv : Value) : Calls Try.prog 35 #[exV e tv xv] w fun en w' => en = .returned (.bool (!isC e)) ∧ Below w.heap.size w w' := by
  obtain ⟨c, hc⟩ : ∃ c, c = isC e := ⟨_, rfl⟩
  have H := Lib.hid (fun w => is_prog w e tv xv)
  rw [← hc] at H
  rw [← hc]
  clear hc
  unfold exV at H ⊢
  go_enter Try.func35, Try.ntmps35
  go_wp2_with fail
  refine (H.out _).mono ?_
  rintro en w2 ⟨rfl, hb⟩
  have HB := Lib.hid (((Below.refl _ w).alloc (Nat.le_refl _) _).trans (hb.mono (by simp)))
  clear hb
  go_wp2_with fail
  go_ret
  exact ⟨rfl, HB.out⟩
def anyB (p : Nat → Bool) : Nat → Bool
  | 0 => false
  | k + 1 => anyB p k || p k
theorem anyB_false {p : Nat → Bool} : ∀ {k : Nat}, (∀ j, j < k → p j = false) → anyB p k = false
  | 0, _ => rfl
  | k + 1, h => by unfold anyB; rw [anyB_false fun j hj => h j (by omega), h k (by omega)]; rfl
theorem anyB_true {p : Nat → Bool} : ∀ {k j : Nat}, j < k → p j = true → anyB p k = true
  | 0, _, h, _ => absurd h (by omega)
  | k + 1, j, h, hp => by
    unfold anyB
    by_cases he : j = k
    · rw [← he, hp]; simp
    · rw [anyB_true (by omega : j < k) hp]; rfl
theorem anyB_none {p : Nat → Bool} {k : Nat} (h : anyB p k = false) (j : Nat) (hj : j < k) : p j = false := by
  cases hp : p j with
  | false => rfl
  | true => rw [anyB_true hj hp] at h; cases h
/-- What a function says of each of a list's expressions. -/
def Says (fid : Nat) (k : Nat) (x : Nat → Ex) (p : Nat → Bool) (w0 : World) : Prop := ∀ (W : World) (j : Nat) (tu xu : Value), j < k → ExOk W (x j) tu xu → Below w0.heap.size w0 W → Calls Try.prog fid #[exV (x j) tu xu] W fun en w' => en = .returned (.bool (p j)) ∧ Below W.heap.size W w'

set_option maxHeartbeats 3200000 in
theorem index_func (w : World) (fid : Nat) (a : Option Addr) (k cap : Nat) (x : Nat → Ex) (p : Nat → Bool) (h : ExsAt w a k x) (h1 : k ≤ cap) (h2 : cap ≤ 9223372036854775807) (hf : Says fid k x p w) (eg : ∀ args w, (callFunc fid args).run Try.prog w = .ok (.enter fid args) w) :
    Calls Try.prog 54 #[.slice a k cap, .func (.func fid) #[] #[]] w fun en w' => (∃ z : Int, en = .returned (.int .i64 z) ∧ decide (0 ≤ z) = anyB p k) ∧ Below w.heap.size w w' := by
  have H := Lib.hid h
  have HF := Lib.hid hf
  clear h hf
  go_enter Try.func54, Try.ntmps54
  go_wp2_with fail
  go_loopw [8] (fun z wr => ∃ j : Nat, j ≤ k ∧ z = .int .i64 (j : Int) ∧ (∀ i, i < j → p i = false) ∧ Below w.heap.size w wr) (fun z _ => k - (intOf z).toNat)
  case atStart => exact ⟨0, by omega, rfl, fun i hi => absurd hi (by omega), Below.refl _ _⟩
  case round =>
    obtain ⟨j, hj, rfl, hno, hb⟩ := hrel
    by_cases hlt : j < k
    · obtain ⟨b, o, rfl, hc⟩ := H.out (by omega)
      obtain ⟨tu, xu, hok, hcc⟩ := hc j hlt
      obtain ⟨c0, c1, c2, c3, c4, c5, c6, c7⟩ := hcc.below hb (Nat.le_refl _)
      have HC := Lib.hid (HF.out wr j tu xu hlt (ExOk.below hb (Nat.le_refl _) _ _ _ hok) hb)
      obtain ⟨E, hE⟩ : ∃ E, E = x j := ⟨_, rfl⟩
      rw [← hE] at HC c0 c1 c2 c3 c5 c6
      unfold exV at HC
      have HNO := Lib.hid hno
      have HB := Lib.hid hb
      clear hc hok hcc hno hb hE
      cases hp : p j
      · have HP := Lib.hid hp
        rw [hp] at HC
        clear hp
        go_wp2_with fail
        refine HC.out.mono ?_
        rintro en w2 ⟨rfl, hb2⟩
        have HB2 := Lib.hid (HB.out.trans (hb2.mono HB.out.size))
        clear hb2
        go_wp2_with fail
        go_roundw
        case rel => exact ⟨j + 1, by omega, by go_num, fun i hi => by
          rcases Nat.lt_succ_iff_lt_or_eq.1 hi with h | h
          · exact HNO.out i h
          · rw [h]; exact HP.out, HB2.out⟩
        case measure => simp [intOf]; omega
      · have HP := Lib.hid (anyB_true hlt hp)
        rw [hp] at HC
        clear hp
        go_wp2_with fail
        refine HC.out.mono ?_
        rintro en w2 ⟨rfl, hb2⟩
        have HB2 := Lib.hid (HB.out.trans (hb2.mono HB.out.size))
        clear hb2
        go_wp2_with fail
        go_ret
        exact ⟨⟨_, rfl, by rw [HP.out]; simp⟩, HB2.out⟩
    · obtain rfl : j = k := by omega
      have HP := Lib.hid (anyB_false hno)
      have HB := Lib.hid hb
      clear hno hb
      go_wp2_with fail
      go_ret
      exact ⟨⟨_, rfl, by rw [HP.out]; simp⟩, HB.out⟩
set_option maxHeartbeats 3200000 in
theorem contains_func (w : World) (fid : Nat) (a : Option Addr) (k cap : Nat) (x : Nat → Ex) (p : Nat → Bool) (h : ExsAt w a k x) (h1 : k ≤ cap) (h2 : cap ≤ 9223372036854775807) (hf : Says fid k x p w) (eg : ∀ args w, (callFunc fid args).run Try.prog w = .ok (.enter fid args) w) :
    Calls Try.prog 32 #[.slice a k cap, .func (.func fid) #[] #[]] w fun en w' => en = .returned (.bool (anyB p k)) ∧ Below w.heap.size w w' := by
  have H := Lib.hid (index_func w fid a k cap x p h h1 h2 hf eg)
  clear eg
  clear h hf
  go_enter Try.func32, Try.ntmps32
  go_wp2_with fail
  refine H.out.mono ?_
  rintro en w2 ⟨⟨z, rfl, hz⟩, hb⟩
  have HB := Lib.hid hb
  have HZ := Lib.hid hz
  clear hb hz
  go_wp2_with fail
  go_ret
  exact ⟨by rw [← HZ.out]; rfl, HB.out⟩
/-- Are all constants? -/
def allC (k : Nat) (x : Nat → Ex) : Bool := !anyB (fun j => !isC (x j)) k
set_option maxHeartbeats 3200000 in
theorem all_prog (w : World) (a : Option Addr) (k cap : Nat) (x : Nat → Ex) (h : ExsAt w a k x) (h1 : k ≤ cap) (h2 : cap ≤ 9223372036854775807) : Calls Try.prog 25 #[.slice a k cap] w fun en w' => en = .returned (.bool (allC k x)) ∧ Below w.heap.size w w' := by
  have H := Lib.hid (contains_func w 35 a k cap x (fun j => !isC (x j)) h h1 h2 (fun W j tu xu hj hok hb => not_is W (x j) tu xu) (enters_of Try.func35 (by kernel_rfl) rfl))
  clear h
  go_enter Try.func25, Try.ntmps25
  go_wp2_with fail
  refine H.out.mono ?_
  rintro en w2 ⟨rfl, hb⟩
  have HB := Lib.hid hb
  clear hb
  go_wp2_with fail
  go_ret
  exact ⟨rfl, HB.out⟩
end Go.Proofs.Ytiikeilpgajmfaa
