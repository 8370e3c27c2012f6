/- Fold: elements of sets. -/
import Derived.Test.YtiikeilpgajmfaaFd2
namespace Go.Proofs.Ytiikeilpgajmfaa
open Go.RowKit Go.Waf
set_option maxRecDepth 100000
set_option linter.unusedVariables false
set_option linter.unusedSimpArgs false

/-- What an element, or a span, comes to. -/
def spI (a b : Int) : Int := if 0 ≤ a ∧ a < 32 ∧ 0 ≤ b ∧ b < 32 then (span a.toNat (b + 1 - a).toNat).toInt else 0
def spB (a b : Int) : Bool := decide (0 ≤ a ∧ a < 32 ∧ 0 ≤ b ∧ b < 32)
theorem spanOf_eq (a b : Int) : spanOf a b = .tuple #[.int .i32 (spI a b), .bool (spB a b)] := by
  unfold spanOf spI spB
  by_cases h : 0 ≤ a ∧ a < 32 ∧ 0 ≤ b ∧ b < 32
  · rw [if_pos h, if_pos h, decide_eq_true h]
  · rw [if_neg h, if_neg h, decide_eq_false h]
theorem spanT_any (a b : Int) (w : World) : Calls Try.prog 56 #[.int .i32 a, .int .i32 b] w fun e w' => e = .returned (.tuple #[.int .i32 (spI a b), .bool (spB a b)]) ∧ w = w' := by rw [← spanOf_eq]; exact span_any a b w
theorem span_one (a : Nat) : (span a 1).toInt = wrap32 (2 ^ a) := by
  have e : span a 1 = BitVec.twoPow 32 a := by
    rw [span, span]; simp
  rw [e, wrap32_ofInt, pow_twoPow]
theorem bit_any (n : Int) (w : World) : Calls Try.prog 55 #[.int .i32 n] w fun e w' => e = .returned (.tuple #[.int .i32 (spI n n), .bool (spB n n)]) ∧ w = w' := by
  unfold spI spB
  by_cases h : 0 ≤ n ∧ n < 32
  · refine (bit_yes n w h.1 h.2).mono ?_
    rintro e w' ⟨rfl, rfl⟩
    rw [if_pos ⟨h.1, h.2, h.1, h.2⟩, decide_eq_true ⟨h.1, h.2, h.1, h.2⟩, show (n + 1 - n).toNat = 1 from by omega, span_one]
    exact ⟨rfl, rfl⟩
  · refine (bit_no n w h).mono ?_
    rintro e w' ⟨rfl, rfl⟩
    rw [if_neg (fun hh => h ⟨hh.1, hh.2.1⟩), decide_eq_false (fun hh => h ⟨hh.1, hh.2.1⟩)]
    exact ⟨rfl, rfl⟩
/-- One, or a span, of as many parts as it should have. -/
def elemF (e : Ex) : Prop := (e.op = 25 ∧ e.k = 1) ∨ (e.op = 26 ∧ e.k = 2)
def elI (e : Ex) : Int := spI (e.x 0).i (e.x (e.k - 1)).i
def elB (e : Ex) : Bool := spB (e.x 0).i (e.x (e.k - 1)).i

set_option maxHeartbeats 3200000 in
theorem element_prog (w : World) (e : Ex) (tv xv : Value) (hok : ExOk w e tv xv) (hf : elemF e) : Calls Try.prog 34 #[exV e tv xv] w fun en w' => en = .returned (.tuple #[.int .i32 (elI e), .bool (elB e)]) ∧ Below w.heap.size w w' := by
  obtain ⟨a, cap, rfl, h1, h2, hx⟩ := hok.shape
  have hk : 0 < e.k := by rcases hf with h | h <;> omega
  obtain ⟨b, o, rfl, hc⟩ := hx hk
  obtain ⟨tu, xu, _, hc0⟩ := hc 0 hk
  have hbl : Below w.heap.size w (w.alloc (.cells #[.int .i64 e.op, .int .i64 e.t.form, .int .i64 e.t.num, .string e.t.name, tv, .int .i32 e.i, .string e.s, .slice (some ⟨b, o, none⟩) e.k cap] 27)) := (Below.refl _ _).alloc (Nat.le_refl _) _
  have d5 := (hc0.below hbl (Nat.le_refl _)).c5
  rw [Nat.zero_mul, Nat.add_zero] at d5
  have hd : Below w.heap.size w (w.alloc (.cells #[.int .i64 e.op, .int .i64 e.t.form, .int .i64 e.t.num, .string e.t.name, tv, .int .i32 e.i, .string e.s, .slice (some ⟨b, o, none⟩) e.k cap] 27)) := hbl
  unfold elI elB exV
  rcases hf with ⟨ho, hk1⟩ | ⟨ho, hk2⟩
  · obtain ⟨x0, hx0⟩ : ∃ x0, x0 = (e.x 0).i := ⟨_, rfl⟩
    rw [hk1] at h1 ⊢
    rw [ho, hk1] at d5 hd
    rw [ho]
    rw [← hx0] at d5 ⊢
    have HD := Lib.hid hd
    clear hok hx hc hc0 hbl hk hk1 ho hx0 hd
    go_enter Try.func34, Try.ntmps34
    go_wp2_with (go_at_call 55; refine (bit_any _ _).mono ?_; rintro en w2 ⟨rfl, rfl⟩)
    go_ret2
    exact ⟨rfl, HD.out⟩
  · obtain ⟨tu1, xu1, _, hc1⟩ := hc 1 (by omega)
    have d5' := (hc1.below hbl (Nat.le_refl _)).c5
    obtain ⟨x0, hx0⟩ : ∃ x0, x0 = (e.x 0).i := ⟨_, rfl⟩
    obtain ⟨x1, hx1⟩ : ∃ x1, x1 = (e.x 1).i := ⟨_, rfl⟩
    rw [hk2] at h1 ⊢
    rw [ho, hk2] at d5 d5' hd
    rw [ho]
    rw [← hx0] at d5 ⊢
    rw [show 2 - 1 = 1 from rfl, ← hx1]
    rw [← hx1] at d5'
    have HD := Lib.hid hd
    clear hok hx hc hc0 hc1 hbl hk hk2 ho hx0 hx1 hd
    go_enter Try.func34, Try.ntmps34
    go_wp2_with fail
    go_quiet ((go_at_call 56; exact quiet_left (spanT_any _ _ _)))
    go_wp2_with fail
    go_ret2
    exact ⟨rfl, below_drewN HD.out _⟩
open Classical in
noncomputable def elemFb (e : Ex) : Bool := decide (elemF e)
theorem elemFb_true {e : Ex} (h : elemF e) : elemFb e = true := by unfold elemFb; simp [h]
theorem elemFb_false {e : Ex} (h : ¬ elemF e) : elemFb e = false := by unfold elemFb; simp [h]
noncomputable def elemOk (e : Ex) : Bool := elemFb e && allC e.k e.x

set_option maxHeartbeats 3200000 in
theorem not_elem (w : World) (e : Ex) (tv xv : Value) (hok : ExOk w e tv xv) : Calls Try.prog 33 #[exV e tv xv] w fun en w' => en = .returned (.bool (!elemOk e)) ∧ Below w.heap.size w w' := by
  obtain ⟨a, cap, rfl, h1, h2, hx⟩ := hok.shape
  have hbl : Below w.heap.size w (w.alloc (.cells #[.int .i64 e.op, .int .i64 e.t.form, .int .i64 e.t.num, .string e.t.name, tv, .int .i32 e.i, .string e.s, .slice a e.k cap] 27)) := (Below.refl _ _).alloc (Nat.le_refl _) _
  have HA := Lib.hid (all_prog _ a e.k cap e.x (hx.below hbl (Nat.le_refl _)) h1 h2)
  have HD := Lib.hid hbl
  obtain ⟨r, hr⟩ : ∃ r, r = allC e.k e.x := ⟨_, rfl⟩
  have HR := Lib.hid (show elemOk e = (elemFb e && r) from by rw [hr]; rfl)
  rw [← hr] at HA
  unfold exV
  have hFy : elemF e → elemOk e = r := fun h => by rw [HR.out, elemFb_true h]; rfl
  have hFn : ¬ elemF e → elemOk e = false := fun h => by rw [HR.out, elemFb_false h]; rfl
  have hdef : elemF e ↔ (e.op = 25 ∧ e.k = 1) ∨ (e.op = 26 ∧ e.k = 2) := Iff.rfl
  obtain ⟨E, hE⟩ : ∃ E, E = elemOk e := ⟨_, rfl⟩
  obtain ⟨op, hop⟩ : ∃ op, op = e.op := ⟨_, rfl⟩
  obtain ⟨k, hk⟩ : ∃ k, k = e.k := ⟨_, rfl⟩
  rw [← hE] at hFy hFn ⊢
  rw [← hk] at h1 HA HD hdef ⊢
  rw [← hop] at HA HD hdef ⊢
  rw [hdef] at hFy hFn
  clear hok hx hbl hr HR hE hop hk hdef
  have go : (E = r → (op = 25 ∧ k = 1) ∨ (op = 26 ∧ k = 2) → True) := fun _ _ => trivial
  clear go
  by_cases ho : op = 25
  · subst ho
    by_cases hk : k = 1
    · subst hk
      obtain rfl := hFy (Or.inl ⟨rfl, rfl⟩)
      clear hFy hFn
      go_enter Try.func33, Try.ntmps33
      go_wp2_with fail
      refine HA.out.mono ?_
      rintro en w2 ⟨rfl, hb⟩
      have HB := Lib.hid (HD.out.trans (hb.mono HD.out.size))
      clear hb
      go_wp2_with fail
      go_ret
      exact ⟨rfl, HB.out⟩
    · obtain rfl := hFn (by omega)
      clear hFy hFn
      go_enter Try.func33, Try.ntmps33
      go_wp2_with fail
      go_ret
      exact ⟨rfl, HD.out⟩
  · by_cases ho2 : op = 26
    · subst ho2
      by_cases hk : k = 2
      · subst hk
        obtain rfl := hFy (Or.inr ⟨rfl, rfl⟩)
        clear hFy hFn ho
        go_enter Try.func33, Try.ntmps33
        go_wp2_with fail
        refine HA.out.mono ?_
        rintro en w2 ⟨rfl, hb⟩
        have HB := Lib.hid (HD.out.trans (hb.mono HD.out.size))
        clear hb
        go_wp2_with fail
        go_ret
        exact ⟨rfl, HB.out⟩
      · obtain rfl := hFn (by omega)
        clear hFy hFn ho
        go_enter Try.func33, Try.ntmps33
        go_wp2_with fail
        go_ret
        exact ⟨rfl, HD.out⟩
    · obtain rfl := hFn (by omega)
      clear hFy hFn
      go_enter Try.func33, Try.ntmps33
      go_wp2_with fail
      go_ret
      exact ⟨rfl, HD.out⟩
noncomputable def elems (k : Nat) (x : Nat → Ex) : Bool := !anyB (fun j => !elemOk (x j)) k
set_option maxHeartbeats 3200000 in
theorem elements_prog (w : World) (a : Option Addr) (k cap : Nat) (x : Nat → Ex) (h : ExsAt w a k x) (h1 : k ≤ cap) (h2 : cap ≤ 9223372036854775807) : Calls Try.prog 23 #[.slice a k cap] w fun en w' => en = .returned (.bool (elems k x)) ∧ Below w.heap.size w w' := by
  have H := Lib.hid (contains_func w 33 a k cap x (fun j => !elemOk (x j)) h h1 h2 (fun W j tu xu hj hok hb => not_elem W (x j) tu xu hok) (enters_of Try.func33 (by kernel_rfl) rfl))
  clear h
  go_enter Try.func23, Try.ntmps23
  go_wp2_with fail
  refine H.out.mono ?_
  rintro en w2 ⟨rfl, hb⟩
  have HB := Lib.hid hb
  clear hb
  go_wp2_with fail
  go_ret
  exact ⟨rfl, HB.out⟩
theorem elems_all {k : Nat} {x : Nat → Ex} (h : elems k x = true) (j : Nat) (hj : j < k) : elemF (x j) := by
  unfold elems at h
  have := anyB_none (p := fun j => !elemOk (x j)) (by simpa using h) j hj
  have h2 : elemOk (x j) = true := by simpa using this
  unfold elemOk at h2
  simp only [Bool.and_eq_true] at h2
  have := h2.1
  unfold elemFb at this
  simpa using this
/-- What the first k elements come to. -/
def setI (x : Nat → Ex) : Nat → Int
  | 0 => 0
  | k + 1 => bits .or .i32 (setI x k) (elI (x k))
def setB (x : Nat → Ex) (k : Nat) : Bool := !anyB (fun j => !elB (x j)) k
def setV (x : Nat → Ex) (k : Nat) : Int := if setB x k = true then setI x k else 0
theorem setV_true {x : Nat → Ex} {k : Nat} (h : setB x k = true) : setV x k = setI x k := by unfold setV; rw [if_pos h]
theorem setV_false {x : Nat → Ex} {k : Nat} (h : setB x k = false) : setV x k = 0 := by unfold setV; rw [h]; rfl
set_option maxHeartbeats 3200000 in
theorem set_prog (w : World) (a : Option Addr) (k cap : Nat) (x : Nat → Ex) (h : ExsAt w a k x) (h1 : k ≤ cap) (h2 : cap ≤ 9223372036854775807) (hf : ∀ j, j < k → elemF (x j)) :
    Calls Try.prog 24 #[.slice a k cap] w fun en w' => en = .returned (.tuple #[.int .i32 (setV x k), .bool (setB x k)]) ∧ Below w.heap.size w w' := by
  have H := Lib.hid h
  have HF := Lib.hid hf
  clear h hf
  go_enter Try.func24, Try.ntmps24
  go_wp2_with fail
  go_loopw [4, 11] (fun s z wr => ∃ j : Nat, j ≤ k ∧ z = .int .i64 (j : Int) ∧ s = .int .i32 (setI x j) ∧ (∀ i, i < j → (!elB (x i)) = false) ∧ Below w.heap.size w wr) (fun _ z _ => k - (intOf z).toNat)
  case atStart => exact ⟨0, by omega, rfl, rfl, fun i hi => absurd hi (by omega), Below.refl _ _⟩
  case round =>
    obtain ⟨j, hj, rfl, rfl, hno, hb⟩ := hrel
    obtain ⟨wo, rfl⟩ : ∃ wo : World, wo = wr := ⟨_, rfl⟩
    by_cases hlt : j < k
    · obtain ⟨b, o, rfl, hc⟩ := H.out (by omega)
      obtain ⟨tu, xu, hok, hcc⟩ := hc j hlt
      obtain ⟨ta, tc, rfl, t1, t2⟩ := hok.ty.shape
      obtain ⟨xa, xc, rfl, x1, x2, _⟩ := hok.shape
      obtain ⟨c0, c1, c2, c3, c4, c5, c6, c7⟩ := hcc.below hb (Nat.le_refl _)
      have hok1 := ExOk.below hb (Nat.le_refl _) _ _ _ hok
      have hbl : Below wo.heap.size wo (wo.alloc (.cells #[.int .i64 (x j).op, .int .i64 (x j).t.form, .int .i64 (x j).t.num, .string (x j).t.name, .slice ta (x j).t.k tc, .int .i32 (x j).i, .string (x j).s, .slice xa (x j).k xc] 27)) := (Below.refl _ _).alloc (Nat.le_refl _) _
      have HC := Lib.hid (element_prog _ (x j) _ _ (ExOk.below hbl (Nat.le_refl _) _ _ _ hok1) (HF.out j hlt))
      have HSI := Lib.hid (show setI x (j + 1) = bits .or .i32 (setI x j) (elI (x j)) from rfl)
      have HNO := Lib.hid hno
      have HB := Lib.hid (hb.trans (hbl.mono hb.size))
      obtain ⟨S, hS⟩ : ∃ S, S = setI x j := ⟨_, rfl⟩
      obtain ⟨v, hv⟩ : ∃ v, v = elI (x j) := ⟨_, rfl⟩
      obtain ⟨t, ht⟩ : ∃ t, t = elB (x j) := ⟨_, rfl⟩
      obtain ⟨E, hE⟩ : ∃ E, E = x j := ⟨_, rfl⟩
      rw [← hv] at HC HSI
      rw [← ht] at HC
      rw [← hS] at HSI ⊢
      have HT := Lib.hid ht
      rw [← hE] at HC c0 c1 c2 c3 c4 c5 c6 c7 HB
      unfold exV at HC
      clear hc hok hcc hok1 hno hb hbl hE hv hS ht
      cases t
      · have HT2 := Lib.hid (show setB x k = false from by unfold setB; rw [anyB_true hlt (by rw [← HT.out]; rfl)]; rfl)
        go_wp2_with fail
        refine HC.out.mono ?_
        rintro en w2 ⟨rfl, hb2⟩
        have HB2 := Lib.hid (HB.out.trans (hb2.mono HB.out.size))
        clear hb2
        go_wp2_with fail
        go_ret2
        exact ⟨by rw [setV_false HT2.out, HT2.out]; rfl, HB2.out⟩
      · go_wp2_with fail
        refine HC.out.mono ?_
        rintro en w2 ⟨rfl, hb2⟩
        have HB2 := Lib.hid (HB.out.trans (hb2.mono HB.out.size))
        clear hb2
        go_wp2_with fail
        go_roundw
        case rel => exact ⟨j + 1, by omega, by go_num, by rw [HSI.out], fun i hi => by
          rcases Nat.lt_succ_iff_lt_or_eq.1 hi with h | h
          · exact HNO.out i h
          · rw [h, ← HT.out]; rfl, HB2.out⟩
        case measure => simp [intOf]; omega
    · obtain rfl : j = k := by omega
      have HP := Lib.hid (show setB x j = true from by unfold setB; rw [anyB_false hno]; rfl)
      have HB := Lib.hid hb
      clear hno hb
      go_wp2_with fail
      go_ret2
      exact ⟨by rw [setV_true HP.out, HP.out]; rfl, HB.out⟩
end Go.Proofs.Ytiikeilpgajmfaa
