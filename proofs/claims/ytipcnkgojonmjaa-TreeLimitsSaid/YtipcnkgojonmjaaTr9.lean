/- Trees: bodies that are small. (Printed by wip/scripts/gen_tr9.py.) -/
import Derived.Test.YtipcnkgojonmjaaTr8
namespace Go.Proofs.Ytipcnkgojonmjaa
open Go.RowKit Go.Waf
set_option maxRecDepth 100000
set_option linter.unusedVariables false
set_option linter.unusedSimpArgs false

/-- May a statement be, but for how deep it is? -/
def smSt : St → Bool
  | .none => false
  | .mk _ nx x nb bl b ni _ => few nx && few nb && few ni && !anyB (fun j => !shB (x j)) nx && !anyB (fun j => !(few (bl j) && !anyB (fun i => !smSt (b j i)) (bl j))) nb
def smSts (n : Nat) (f : Nat → St) : Bool := few n && !anyB (fun i => !smSt (f i)) n
theorem smSt_eq {w : World} {s : St} {xv bv iv : Value} (h : StOk w s xv bv iv) : smSt s = (few s.nx && few s.nb && few s.ni && !anyB (fun j => !shB (s.x j)) s.nx && !anyB (fun j => !smSts (s.bl j) (s.b j)) s.nb) := by
  cases s with
  | none => exact h.elim
  | mk op nx x nb bl b ni is => rfl
/-- No expression is too deep to be told how deep it is. -/
def St.depOk : St → Prop
  | .none => True
  | .mk _ nx x nb bl b _ _ => (∀ j, j < nx → (x j).dep ≤ 1000000) ∧ ∀ j, j < nb → ∀ i, i < bl j → (b j i).depOk
def DepsOk (n : Nat) (f : Nat → St) : Prop := ∀ i, i < n → (f i).depOk
theorem depOk_open {s : St} (h : s.depOk) : (∀ j, j < s.nx → (s.x j).dep ≤ 1000000) ∧ ∀ j, j < s.nb → DepsOk (s.bl j) (s.b j) := by
  cases s with
  | none => exact ⟨fun j hj => absurd hj (by simp [St.nx]), fun j hj => absurd hj (by simp [St.nb])⟩
  | mk op nx x nb bl b ni is => exact h
theorem not_body (w : World) (a : Option Addr) (n c : Nat) (b : Bool) (H : Calls Try.prog 17 #[.slice a n c] w fun en w' => en = .returned (.bool b) ∧ Below w.heap.size w w') :
    Calls Try.prog 66 #[.slice a n c] w fun en w' => en = .returned (.bool (!b)) ∧ Below w.heap.size w w' := by
  have H := Lib.hid H
  go_enter Try.func66, Try.ntmps66
  go_wp2_with fail
  refine H.out.mono ?_
  rintro en w2 ⟨rfl, hb2⟩
  have HB2 := Lib.hid hb2
  clear hb2
  go_wp2_with fail
  go_ret
  exact ⟨rfl, HB2.out⟩
/-- Expressions, one by one. -/
def smExs (n : Nat) (x : Nat → Ex) : Bool := few n && !anyB (fun j => !shB (x j)) n
set_option maxHeartbeats 3200000 in
theorem smallExprs_ref (w : World) (a : Option Addr) (k c : Nat) (x : Nat → Ex) (h1 : k ≤ c) (h2 : c ≤ 9223372036854775807) (hx : ExsAt w a k x) (hdp : ∀ j, j < k → (x j).dep ≤ 1000000) :
    Calls Try.prog 32 #[.slice a k c] w fun en w' => en = .returned (.bool (smExs k x)) ∧ Below w.heap.size w w' := by
  have HR := Lib.hid (show smExs k x = (few k && !anyB (fun j => !shB (x j)) k) from rfl)
  obtain ⟨P, hP⟩ : ∃ P : Nat → Bool, P = fun j => !shB (x j) := ⟨_, rfl⟩
  obtain ⟨R, hR⟩ : ∃ R, R = smExs k x := ⟨_, rfl⟩
  obtain ⟨B, hB⟩ : ∃ R, R = few k := ⟨_, rfl⟩
  rw [← hP, ← hR, ← hB] at HR
  rw [← hR]
  have HPJ := Lib.hid (fun j => show P j = !(decide ((x j).dep ≤ 64) && smEx (x j)) from by rw [hP]; rfl)
  have HFW := Lib.hid (fun w => few_ref w k)
  rw [← hB] at HFW
  have HX := Lib.hid hx
  have HDP := Lib.hid hdp
  clear hP hR hB hx hdp
  cases B
  · obtain rfl : R = false := by rw [HR.out]; rfl
    go_enter Try.func32, Try.ntmps32
    go_wp2_with fail
    refine (HFW.out _).mono ?_
    rintro en w2 ⟨rfl, rfl⟩
    go_wp2_with fail
    go_ret
    exact ⟨rfl, Below.refl _ _⟩
  · have HR2 := Lib.hid (show R = !anyB P k from by rw [HR.out]; rfl)
    go_enter Try.func32, Try.ntmps32
    go_wp2_with fail
    refine (HFW.out _).mono ?_
    rintro en w2 ⟨rfl, rfl⟩
    go_wp2_with fail
    go_loopw [3] (fun z wr => ∃ j : Nat, j ≤ k ∧ z = .int .i64 (j : Int) ∧ (∀ i, i < j → P i = false) ∧ Below w.heap.size w wr) (fun z _ => k - (intOf z).toNat)
    case atStart => exact ⟨0, by omega, rfl, fun i hi => absurd hi (by omega), Below.refl _ _⟩
    case round =>
      obtain ⟨j, hj, rfl, hno, hb⟩ := hrel
      obtain ⟨wo, rfl⟩ : ∃ wo : World, wo = wr := ⟨_, rfl⟩
      by_cases hlt : j < k
      · obtain ⟨b, o, rfl, hc⟩ := HX.out (by omega)
        obtain ⟨tu, xu, hok, hcc⟩ := hc j hlt
        obtain ⟨d0, d1, d2, d3, d4, d5, d6, d7⟩ := hcc.below hb (Nat.le_refl _)
        have HC := Lib.hid (depth_ref (x j) wo tu xu (HDP.out j hlt) (ExOk.below hb (Nat.le_refl _) _ _ _ hok))
        have HC2 := Lib.hid (fun W (hbw : Below w.heap.size w W) => smallExpr_ref (x j) W tu xu (ExOk.below hbw (Nat.le_refl _) _ _ _ hok))
        have HCC := Lib.hid (fun W (hbw : Below w.heap.size w W) => hcc.below hbw (Nat.le_refl _))
        have hpj := HPJ.out j
        obtain ⟨ua, uc, rfl, _, _⟩ := hok.ty.shape
        obtain ⟨va, vc, rfl, _, _, _⟩ := hok.shape
        obtain ⟨E, hE⟩ : ∃ E, E = x j := ⟨_, rfl⟩
        rw [← hE] at HC HC2 HCC hpj d0 d1 d2 d3 d4 d5 d6 d7
        obtain ⟨D, hD⟩ : ∃ d, d = E.dep := ⟨_, rfl⟩
        obtain ⟨SB, hSB⟩ : ∃ d, d = smEx E := ⟨_, rfl⟩
        have hdd := HDP.out j hlt
        rw [← hE, ← hD] at hdd
        rw [← hD] at HC hpj
        simp only [← hSB] at HC2
        rw [← hSB] at hpj
        unfold exV at HC HC2
        have HB := Lib.hid hb
        have HNO := Lib.hid hno
        have HPJ2 := Lib.hid hpj
        clear hc hcc hok hno hb hE hD hSB hpj
        by_cases h64 : D ≤ 64
        · cases SB
          · have HP := Lib.hid (show R = false from by rw [HR2.out, anyB_true hlt (by rw [HPJ2.out]; simp)]; rfl)
            go_wp2_with fail
            refine HC.out.mono ?_
            rintro en w4 ⟨rfl, hb2⟩
            have HB2 := Lib.hid (HB.out.trans (hb2.mono HB.out.size))
            obtain ⟨f0, f1, f2, f3, f4, f5, f6, f7⟩ := HCC.out w4 HB2.out
            clear hb2
            go_wp2_with fail
            refine (HC2.out _ HB2.out).mono ?_
            rintro en w5 ⟨rfl, hb2⟩
            have HB3 := Lib.hid (HB2.out.trans (hb2.mono HB2.out.size))
            clear hb2
            go_wp2_with fail
            go_ret
            exact ⟨by rw [HP.out]; rfl, HB3.out⟩
          · have HP := Lib.hid (show P j = false from by rw [HPJ2.out]; simp [h64])
            go_wp2_with fail
            refine HC.out.mono ?_
            rintro en w4 ⟨rfl, hb2⟩
            have HB2 := Lib.hid (HB.out.trans (hb2.mono HB.out.size))
            obtain ⟨f0, f1, f2, f3, f4, f5, f6, f7⟩ := HCC.out w4 HB2.out
            clear hb2
            go_wp2_with fail
            refine (HC2.out _ HB2.out).mono ?_
            rintro en w5 ⟨rfl, hb2⟩
            have HB3 := Lib.hid (HB2.out.trans (hb2.mono HB2.out.size))
            clear hb2
            go_wp2_with fail
            go_roundw
            case rel => exact ⟨j + 1, by omega, by go_num, fun i hi => by
              rcases Nat.lt_succ_iff_lt_or_eq.1 hi with h | h
              · exact HNO.out i h
              · rw [h]; exact HP.out, HB3.out⟩
            case measure => simp [intOf]; omega
        · have HP := Lib.hid (show R = false from by rw [HR2.out, anyB_true hlt (by rw [HPJ2.out]; simp [h64])]; rfl)
          go_wp2_with fail
          refine HC.out.mono ?_
          rintro en w4 ⟨rfl, hb2⟩
          have HB2 := Lib.hid (HB.out.trans (hb2.mono HB.out.size))
          clear hb2
          go_wp2_with fail
          go_ret
          exact ⟨by rw [HP.out]; rfl, HB2.out⟩
      · obtain rfl : j = k := by omega
        have HP := Lib.hid (show R = true from by rw [HR2.out, anyB_false hno]; rfl)
        have HB := Lib.hid hb
        clear hno hb
        go_wp2_with fail
        go_ret
        exact ⟨by rw [HP.out]; rfl, HB.out⟩
def BodyP (n : Nat) (f : Nat → St) : Prop := ∀ (w : World) (a : Option Addr) (c : Nat), n ≤ c → c ≤ 9223372036854775807 → StsAt w a n f → DepsOk n f → Calls Try.prog 17 #[.slice a n c] w fun en w' => en = .returned (.bool (smSts n f)) ∧ Below w.heap.size w w'
set_option maxHeartbeats 6400000 in
theorem smallBody_prog : ∀ d, d ≤ 1000000 → ∀ n f, nestS n f < d → BodyP n f := by
  intro d
  induction d with
  | zero => intro _ n f h; exact absurd h (by omega)
  | succ d ih =>
  intro hd n f hn w a c h1 h2 hx hdp
  have HR := Lib.hid (show smSts n f = (few n && !anyB (fun i => !smSt (f i)) n) from rfl)
  obtain ⟨P, hP⟩ : ∃ P : Nat → Bool, P = fun i => !smSt (f i) := ⟨_, rfl⟩
  obtain ⟨R, hR⟩ : ∃ R, R = smSts n f := ⟨_, rfl⟩
  obtain ⟨B, hB⟩ : ∃ R, R = few n := ⟨_, rfl⟩
  rw [← hP, ← hR, ← hB] at HR
  rw [← hR]
  have HPJ := Lib.hid (fun i => show P i = !smSt (f i) from by rw [hP])
  have HFW := Lib.hid (fun w => list_prog w n)
  rw [← hB] at HFW
  have HX := Lib.hid hx
  have HDP := Lib.hid hdp
  have HI := Lib.hid (ih (by omega))
  have HN := Lib.hid (show ∀ i, i < n → (f i).nest ≤ d from fun i hi => by have := maxN_le (f := fun i => (f i).nest) hi; have hn : maxN (fun i => (f i).nest) n < d + 1 := hn; omega)
  clear hP hR hB hx hdp hn ih
  cases B
  · obtain rfl : R = false := by rw [HR.out]; rfl
    go_enter Try.func17, Try.ntmps17
    go_wp2_with fail
    refine (HFW.out _).mono ?_
    rintro en w2 ⟨rfl, rfl⟩
    go_wp2_with fail
    go_ret
    exact ⟨rfl, Below.refl _ _⟩
  · have HR2 := Lib.hid (show R = !anyB P n from by rw [HR.out]; rfl)
    go_enter Try.func17, Try.ntmps17
    go_wp2_with fail
    refine (HFW.out _).mono ?_
    rintro en w2 ⟨rfl, rfl⟩
    go_wp2_with fail
    go_loopw [11] (fun z wr => ∃ j : Nat, j ≤ n ∧ z = .int .i64 (j : Int) ∧ (∀ i, i < j → P i = false) ∧ Below w.heap.size w wr) (fun z _ => n - (intOf z).toNat)
    case atStart => exact ⟨0, by omega, rfl, fun i hi => absurd hi (by omega), Below.refl _ _⟩
    case round =>
      obtain ⟨i, hi, rfl, hno, hb⟩ := hrel
      obtain ⟨wo, rfl⟩ : ∃ wo : World, wo = wr := ⟨_, rfl⟩
      by_cases hlt : i < n
      · obtain ⟨b, o, rfl, hc⟩ := HX.out (by omega)
        obtain ⟨xu, bu, iu, hok, hcc⟩ := hc i hlt
        have hse := St.nest_eq hok
        have hsm := smSt_eq hok
        have hnn := HN.out i hlt
        obtain ⟨dpx, dpb⟩ := depOk_open (HDP.out i hlt)
        have hpj := HPJ.out i
        obtain ⟨⟨xa, xc, rfl, x1, x2, hxs⟩, ⟨ia, ic, rfl, i1, i2, _⟩, ba, bc, rfl, q1, q2, hbs⟩ := hok.open
        obtain ⟨d0, d1, d2, d3⟩ := hcc.below hb (Nat.le_refl _)
        obtain ⟨S, hS⟩ : ∃ S, S = f i := ⟨_, rfl⟩
        rw [← hS] at hse hsm d0 d1 d2 d3 hbs q1 x1 i1 hxs dpx dpb hpj hnn
        rw [hsm] at hpj
        have HC1 := Lib.hid (fun w => list_prog w S.nx)
        have HC2 := Lib.hid (fun w => list_prog w S.nb)
        have HC3 := Lib.hid (fun w => list_prog w S.ni)
        have HC4 := Lib.hid (fun W (hbw : Below w.heap.size w W) => contains_Ex W 64 xa S.nx xc S.x (fun j => !shB (S.x j)) (ExsAt.below hxs hbw (Nat.le_refl _)) x1 x2 (fun W2 j tu xu hj hok hb2 => not_shallow W2 (S.x j) tu xu (dpx j hj) hok) (enters_of Try.func64 (by kernel_rfl) rfl))
        have HC5 := Lib.hid (fun W (hbw : Below w.heap.size w W) => contains_Bs W 66 ba S.nb bc S.bl S.b (fun j => !smSts (S.bl j) (S.b j)) (BsAt.below hbs hbw (Nat.le_refl _)) q1 q2 (fun W2 j ja jc hj k1 k2 hok hb2 =>
          not_body W2 ja (S.bl j) jc _ (HI.out (S.bl j) (S.b j) (by have := maxN_le (f := fun j => nestS (S.bl j) (S.b j)) hj; have : nestS (S.bl j) (S.b j) ≤ maxN (fun j => nestS (S.bl j) (S.b j)) S.nb := this; omega) W2 ja jc k1 k2 hok (dpb j hj))) (enters_of Try.func66 (by kernel_rfl) rfl))
        obtain ⟨NX, hNX⟩ : ∃ k, k = S.nx := ⟨_, rfl⟩
        obtain ⟨NB, hNB⟩ : ∃ k, k = S.nb := ⟨_, rfl⟩
        obtain ⟨NI, hNI⟩ : ∃ k, k = S.ni := ⟨_, rfl⟩
        obtain ⟨op, hop⟩ : ∃ k, k = S.op := ⟨_, rfl⟩
        obtain ⟨B1, hB1⟩ : ∃ b, b = few S.nx := ⟨_, rfl⟩
        obtain ⟨B2, hB2⟩ : ∃ b, b = few S.nb := ⟨_, rfl⟩
        obtain ⟨B3, hB3⟩ : ∃ b, b = few S.ni := ⟨_, rfl⟩
        obtain ⟨B4, hB4⟩ : ∃ b, b = anyB (fun j => !shB (S.x j)) S.nx := ⟨_, rfl⟩
        obtain ⟨B5, hB5⟩ : ∃ b, b = anyB (fun j => !smSts (S.bl j) (S.b j)) S.nb := ⟨_, rfl⟩
        rw [← hB1, ← hB2, ← hB3, ← hB4, ← hB5] at hpj
        simp only [← hB1] at HC1
        simp only [← hNX] at HC1
        simp only [← hB2] at HC2
        simp only [← hNB] at HC2
        simp only [← hB3] at HC3
        simp only [← hNI] at HC3
        simp only [← hB4] at HC4
        simp only [← hNX] at HC4
        simp only [← hB5] at HC5
        simp only [← hNB] at HC5
        rw [← hop] at d0
        rw [← hNX] at d1
        rw [← hNB] at d2
        rw [← hNI] at d3
        have HPJ2 := Lib.hid hpj
        have HB := Lib.hid hb
        have HNO := Lib.hid hno
        have hsz := hb.size
        have hwa : Below w.heap.size w (wo.alloc (.cells #[.int .i64 op, .slice xa NX xc, .slice ba NB bc, .slice ia NI ic] 40)) := hb.alloc hsz _
        obtain ⟨w3, hw3⟩ : ∃ w3, w3 = wo.alloc (.cells #[.int .i64 op, .slice xa NX xc, .slice ba NB bc, .slice ia NI ic] 40) := ⟨_, rfl⟩
        have HZ := Lib.hid (show w3.heap[wo.heap.size]? = some (.cells #[.int .i64 op, .slice xa NX xc, .slice ba NB bc, .slice ia NI ic] 40 (0, 0)) from by rw [hw3]; exact heap_alloc_new wo _)
        have e1 := rowC HZ.out 1 _
        have e2 := rowC HZ.out 2 _
        have e3 := rowC HZ.out 3 _
        rw [← hw3] at hwa
        have HW3 := Lib.hid hw3
        have HWA := Lib.hid hwa
        clear hc hok hcc hb hno hS hse hsm hbs hxs hNX hNB hNI hop hB1 hB2 hB3 hB4 hB5 hpj dpx dpb hwa hw3 hnn x1 i1 q1
        cases B1
        · have HP := Lib.hid (show R = false from by rw [HR2.out, anyB_true hlt (by rw [HPJ2.out]; simp)]; rfl)
          go_wp2_with fail
          rw [← HW3.out]
          refine (HC1.out _).mono ?_
          rintro en w4 ⟨rfl, rfl⟩
          go_wp2_with fail
          go_ret
          exact ⟨by rw [HP.out]; rfl, HWA.out⟩
        · cases B2
          · have HP := Lib.hid (show R = false from by rw [HR2.out, anyB_true hlt (by rw [HPJ2.out]; simp)]; rfl)
            go_wp2_with fail
            rw [← HW3.out]
            refine (HC1.out _).mono ?_
            rintro en w4 ⟨rfl, rfl⟩
            go_wp2_with fail
            refine (HC2.out _).mono ?_
            rintro en w4 ⟨rfl, rfl⟩
            go_wp2_with fail
            go_ret
            exact ⟨by rw [HP.out]; rfl, HWA.out⟩
          · cases B3
            · have HP := Lib.hid (show R = false from by rw [HR2.out, anyB_true hlt (by rw [HPJ2.out]; simp)]; rfl)
              go_wp2_with fail
              rw [← HW3.out]
              refine (HC1.out _).mono ?_
              rintro en w4 ⟨rfl, rfl⟩
              go_wp2_with fail
              refine (HC2.out _).mono ?_
              rintro en w4 ⟨rfl, rfl⟩
              go_wp2_with fail
              refine (HC3.out _).mono ?_
              rintro en w4 ⟨rfl, rfl⟩
              go_wp2_with fail
              go_ret
              exact ⟨by rw [HP.out]; rfl, HWA.out⟩
            · cases B4
              · cases B5
                · have HP := Lib.hid (show P i = false from by rw [HPJ2.out]; simp)
                  go_wp2_with fail
                  rw [← HW3.out]
                  refine (HC1.out _).mono ?_
                  rintro en w4 ⟨rfl, rfl⟩
                  go_wp2_with fail
                  refine (HC2.out _).mono ?_
                  rintro en w4 ⟨rfl, rfl⟩
                  go_wp2_with fail
                  refine (HC3.out _).mono ?_
                  rintro en w4 ⟨rfl, rfl⟩
                  go_wp2_with fail
                  refine (HC4.out _ HWA.out).mono ?_
                  rintro en w5 ⟨rfl, hb2⟩
                  have HB5 := Lib.hid (HWA.out.trans (hb2.mono HWA.out.size))
                  have f2 := cell_below hb2 (Nat.le_refl _) (rowC HZ.out 2 _)
                  clear hb2
                  go_wp2_with fail
                  refine (HC5.out _ HB5.out).mono ?_
                  rintro en w6 ⟨rfl, hb2⟩
                  have HB6 := Lib.hid (HB5.out.trans (hb2.mono HB5.out.size))
                  clear hb2
                  go_wp2_with fail
                  go_roundw
                  case rel => exact ⟨i + 1, by omega, by go_num, fun k hk => by
                    rcases Nat.lt_succ_iff_lt_or_eq.1 hk with h | h
                    · exact HNO.out k h
                    · rw [h]; exact HP.out, HB6.out⟩
                  case measure => simp [intOf]; omega
                · have HP := Lib.hid (show R = false from by rw [HR2.out, anyB_true hlt (by rw [HPJ2.out]; simp)]; rfl)
                  go_wp2_with fail
                  rw [← HW3.out]
                  refine (HC1.out _).mono ?_
                  rintro en w4 ⟨rfl, rfl⟩
                  go_wp2_with fail
                  refine (HC2.out _).mono ?_
                  rintro en w4 ⟨rfl, rfl⟩
                  go_wp2_with fail
                  refine (HC3.out _).mono ?_
                  rintro en w4 ⟨rfl, rfl⟩
                  go_wp2_with fail
                  refine (HC4.out _ HWA.out).mono ?_
                  rintro en w5 ⟨rfl, hb2⟩
                  have HB5 := Lib.hid (HWA.out.trans (hb2.mono HWA.out.size))
                  have f2 := cell_below hb2 (Nat.le_refl _) (rowC HZ.out 2 _)
                  clear hb2
                  go_wp2_with fail
                  refine (HC5.out _ HB5.out).mono ?_
                  rintro en w6 ⟨rfl, hb2⟩
                  have HB6 := Lib.hid (HB5.out.trans (hb2.mono HB5.out.size))
                  clear hb2
                  go_wp2_with fail
                  go_ret
                  exact ⟨by rw [HP.out]; rfl, HB6.out⟩
              · have HP := Lib.hid (show R = false from by rw [HR2.out, anyB_true hlt (by rw [HPJ2.out]; simp)]; rfl)
                go_wp2_with fail
                rw [← HW3.out]
                refine (HC1.out _).mono ?_
                rintro en w4 ⟨rfl, rfl⟩
                go_wp2_with fail
                refine (HC2.out _).mono ?_
                rintro en w4 ⟨rfl, rfl⟩
                go_wp2_with fail
                refine (HC3.out _).mono ?_
                rintro en w4 ⟨rfl, rfl⟩
                go_wp2_with fail
                refine (HC4.out _ HWA.out).mono ?_
                rintro en w5 ⟨rfl, hb2⟩
                have HB5 := Lib.hid (HWA.out.trans (hb2.mono HWA.out.size))
                have f2 := cell_below hb2 (Nat.le_refl _) (rowC HZ.out 2 _)
                clear hb2
                go_wp2_with fail
                go_ret
                exact ⟨by rw [HP.out]; rfl, HB5.out⟩
      · obtain rfl : i = n := by omega
        have HP := Lib.hid (show R = true from by rw [HR2.out, anyB_false hno]; rfl)
        have HB := Lib.hid hb
        clear hno hb
        go_wp2_with fail
        go_ret
        exact ⟨by rw [HP.out]; rfl, HB.out⟩
end Go.Proofs.Ytipcnkgojonmjaa
