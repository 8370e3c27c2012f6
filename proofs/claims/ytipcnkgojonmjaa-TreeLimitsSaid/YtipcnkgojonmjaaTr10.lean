/- Trees: bodies that are small, by the reference. -/
import Derived.Test.YtipcnkgojonmjaaTr9
namespace Go.Proofs.Ytipcnkgojonmjaa
open Go.RowKit Go.Waf
set_option maxRecDepth 100000
set_option linter.unusedVariables false
set_option linter.unusedSimpArgs false

def BodyR (n : Nat) (f : Nat → St) : Prop := ∀ (w : World) (a : Option Addr) (c : Nat), n ≤ c → c ≤ 9223372036854775807 → StsAt w a n f → DepsOk n f → Calls Try.prog 31 #[.slice a n c] w fun en w' => en = .returned (.bool (smSts n f)) ∧ Below w.heap.size w w'
set_option maxHeartbeats 6400000 in
theorem smallBody_ref : ∀ d, d ≤ 1000000 → ∀ n f, nestS n f < d → BodyR n f := by
  intro d
  induction d with
  | zero => intro _ n f h; exact absurd h (by omega)
  | succ d ih =>
  intro hd n f hn w a c h1 h2 hx hdp
  have HR := Lib.hid (show smSts n f = (few n && !anyB (fun i => !smSt (f i)) n) from rfl)
  obtain ⟨P, hP⟩ : ∃ P : Nat → Bool, P = fun i => !smSt (f i) := ⟨_, rfl⟩
  obtain ⟨R, hR⟩ : ∃ R, R = smSts n f := ⟨_, rfl⟩
  obtain ⟨B, hB⟩ : ∃ R, R = few n := ⟨_, rfl⟩
  rw [← hP, ← hR, ← hB] at HR
  rw [← hR]
  have HPJ := Lib.hid (fun i => show P i = !smSt (f i) from by rw [hP])
  have HFW := Lib.hid (fun w => few_ref w n)
  rw [← hB] at HFW
  have HX := Lib.hid hx
  have HDP := Lib.hid hdp
  have HI := Lib.hid (ih (by omega))
  have HN := Lib.hid (show ∀ i, i < n → (f i).nest ≤ d from fun i hi => by have := maxN_le (f := fun i => (f i).nest) hi; have hn : maxN (fun i => (f i).nest) n < d + 1 := hn; omega)
  clear hP hR hB hx hdp hn ih
  cases B
  · obtain rfl : R = false := by rw [HR.out]; rfl
    go_enter Try.func31, Try.ntmps31
    go_wp2_with fail
    refine (HFW.out _).mono ?_
    rintro en w2 ⟨rfl, rfl⟩
    go_wp2_with fail
    go_ret
    exact ⟨rfl, Below.refl _ _⟩
  · have HR2 := Lib.hid (show R = !anyB P n from by rw [HR.out]; rfl)
    go_enter Try.func31, Try.ntmps31
    go_wp2_with fail
    refine (HFW.out _).mono ?_
    rintro en w2 ⟨rfl, rfl⟩
    go_wp2_with fail
    go_loopw [3] (fun z wr => ∃ j : Nat, j ≤ n ∧ z = .int .i64 (j : Int) ∧ (∀ i, i < j → P i = false) ∧ Below w.heap.size w wr) (fun z _ => n - (intOf z).toNat)
    case atStart => exact ⟨0, by omega, rfl, fun i hi => absurd hi (by omega), Below.refl _ _⟩
    case round =>
      obtain ⟨i, hi, rfl, hno, hb⟩ := hrel
      obtain ⟨wo, rfl⟩ : ∃ wo : World, wo = wr := ⟨_, rfl⟩
      by_cases hlt : i < n
      · obtain ⟨b, o, rfl, hc⟩ := HX.out (by omega)
        obtain ⟨xu, bu, iu, hok, hcc⟩ := hc i hlt
        have hse := St.nest_eq hok
        have hsm := smSt_eq hok
        have hnn := HN.out i hlt
        obtain ⟨dpx, dpb⟩ := depOk_open (HDP.out i hlt)
        have hpj := HPJ.out i
        obtain ⟨⟨xa, xc, rfl, x1, x2, hxs⟩, ⟨ia, ic, rfl, i1, i2, _⟩, ba, bc, rfl, q1, q2, hbs⟩ := hok.open
        obtain ⟨d0, d1, d2, d3⟩ := hcc.below hb (Nat.le_refl _)
        have HCC := Lib.hid (fun W (hbw : Below w.heap.size w W) => hcc.below hbw (Nat.le_refl _))
        obtain ⟨S, hS⟩ : ∃ S, S = f i := ⟨_, rfl⟩
        rw [← hS] at hse hsm d0 d1 d2 d3 hbs q1 x1 i1 hxs dpx dpb hpj hnn
        simp only [← hS] at HCC
        have hpj : P i = !(smExs S.nx S.x && few S.ni && few S.nb && !anyB (fun j => !smSts (S.bl j) (S.b j)) S.nb) := by
          rw [hpj, hsm]
          unfold smExs
          cases few S.nx <;> cases few S.nb <;> cases few S.ni <;> simp
        have HC1 := Lib.hid (fun W (hbw : Below w.heap.size w W) => smallExprs_ref W xa S.nx xc S.x x1 x2 (ExsAt.below hxs hbw (Nat.le_refl _)) dpx)
        have HC2 := Lib.hid (fun w => few_ref w S.ni)
        have HC3 := Lib.hid (fun w => few_ref w S.nb)
        obtain ⟨Q, hQ⟩ : ∃ Q : Nat → Bool, Q = fun j => !smSts (S.bl j) (S.b j) := ⟨_, rfl⟩
        have HC5 := Lib.hid (fun j (hj : j < S.nb) W ja jc k1 k2 (hok : StsAt W ja (S.bl j) (S.b j)) => show Calls Try.prog 31 #[.slice ja (S.bl j) jc] W fun en w' => en = .returned (.bool (!Q j)) ∧ Below W.heap.size W w' from by
          have h := HI.out (S.bl j) (S.b j) (by have := maxN_le (f := fun j => nestS (S.bl j) (S.b j)) hj; have : nestS (S.bl j) (S.b j) ≤ maxN (fun j => nestS (S.bl j) (S.b j)) S.nb := this; omega) W ja jc k1 k2 hok (dpb j hj)
          rw [show smSts (S.bl j) (S.b j) = !Q j from by rw [hQ]; simp] at h
          exact h)
        rw [← hQ] at hpj
        obtain ⟨NX, hNX⟩ : ∃ k, k = S.nx := ⟨_, rfl⟩
        obtain ⟨NB, hNB⟩ : ∃ k, k = S.nb := ⟨_, rfl⟩
        obtain ⟨NI, hNI⟩ : ∃ k, k = S.ni := ⟨_, rfl⟩
        obtain ⟨op, hop⟩ : ∃ k, k = S.op := ⟨_, rfl⟩
        obtain ⟨B1, hB1⟩ : ∃ b, b = smExs S.nx S.x := ⟨_, rfl⟩
        obtain ⟨B2, hB2⟩ : ∃ b, b = few S.ni := ⟨_, rfl⟩
        obtain ⟨B3, hB3⟩ : ∃ b, b = few S.nb := ⟨_, rfl⟩
        rw [← hB1, ← hB2, ← hB3, ← hNB] at hpj
        simp only [← hB1] at HC1
        simp only [← hNX] at HC1
        simp only [← hB2] at HC2
        simp only [← hNI] at HC2
        simp only [← hB3] at HC3
        simp only [← hNB] at HC3
        simp only [← hNB] at HC5
        simp only [← hop, ← hNX, ← hNB, ← hNI] at HCC
        rw [← hop] at d0
        rw [← hNX] at d1
        rw [← hNB] at d2
        rw [← hNI] at d3
        rw [← hNB] at hbs q1
        have HPJ2 := Lib.hid hpj
        have HB := Lib.hid hb
        have HNO := Lib.hid hno
        have HBS := Lib.hid hbs
        clear hc hok hcc hb hno hS hse hsm hbs hxs hNX hNB hNI hop hB1 hB2 hB3 hpj dpx dpb hnn x1 i1 hQ
        cases B1
        · have HP := Lib.hid (show R = false from by rw [HR2.out, anyB_true hlt (by rw [HPJ2.out]; simp)]; rfl)
          go_wp2_with fail
          refine (HC1.out _ HB.out).mono ?_
          rintro en w4 ⟨rfl, hb2⟩
          have HB2 := Lib.hid (HB.out.trans (hb2.mono HB.out.size))
          clear hb2
          go_wp2_with fail
          go_ret
          exact ⟨by rw [HP.out]; rfl, HB2.out⟩
        · cases B2
          · have HP := Lib.hid (show R = false from by rw [HR2.out, anyB_true hlt (by rw [HPJ2.out]; simp)]; rfl)
            go_wp2_with fail
            refine (HC1.out _ HB.out).mono ?_
            rintro en w4 ⟨rfl, hb2⟩
            have HB2 := Lib.hid (HB.out.trans (hb2.mono HB.out.size))
            obtain ⟨f0, f1, f2, f3⟩ := HCC.out w4 HB2.out
            clear hb2
            go_wp2_with fail
            refine (HC2.out _).mono ?_
            rintro en w5 ⟨rfl, rfl⟩
            go_wp2_with fail
            go_ret
            exact ⟨by rw [HP.out]; rfl, HB2.out⟩
          · cases B3
            · have HP := Lib.hid (show R = false from by rw [HR2.out, anyB_true hlt (by rw [HPJ2.out]; simp)]; rfl)
              go_wp2_with fail
              refine (HC1.out _ HB.out).mono ?_
              rintro en w4 ⟨rfl, hb2⟩
              have HB2 := Lib.hid (HB.out.trans (hb2.mono HB.out.size))
              obtain ⟨f0, f1, f2, f3⟩ := HCC.out w4 HB2.out
              clear hb2
              go_wp2_with fail
              refine (HC2.out _).mono ?_
              rintro en w5 ⟨rfl, rfl⟩
              go_wp2_with fail
              refine (HC3.out _).mono ?_
              rintro en w5 ⟨rfl, rfl⟩
              go_wp2_with fail
              go_ret
              exact ⟨by rw [HP.out]; rfl, HB2.out⟩
            · have HP5 := Lib.hid (show P i = anyB Q NB from by rw [HPJ2.out]; simp)
              go_wp2_with fail
              refine (HC1.out _ HB.out).mono ?_
              rintro en w4 ⟨rfl, hb2⟩
              have HB2 := Lib.hid (HB.out.trans (hb2.mono HB.out.size))
              obtain ⟨f0, f1, f2, f3⟩ := HCC.out w4 HB2.out
              clear hb2
              go_wp2_with fail
              refine (HC2.out _).mono ?_
              rintro en w5 ⟨rfl, rfl⟩
              go_wp2_with fail
              refine (HC3.out _).mono ?_
              rintro en w5 ⟨rfl, rfl⟩
              go_wp2_with fail
              clear f0 f1 f2 f3 d0 d1 d2 d3
              go_loopw [4] (fun z wr => ∃ j : Nat, j ≤ NB ∧ z = .int .i64 (j : Int) ∧ (∀ i, i < j → Q i = false) ∧ Below w.heap.size w wr) (fun z _ => NB - (intOf z).toNat)
              case atStart => exact ⟨0, by omega, rfl, fun i hi => absurd hi (by omega), HB2.out⟩
              case round =>
                obtain ⟨j, hj, rfl, hnq, hb2⟩ := hrel
                obtain ⟨wi, rfl⟩ : ∃ wi : World, wi = wr := ⟨_, rfl⟩
                obtain ⟨f0, f1, f2, f3⟩ := HCC.out wi hb2
                by_cases hl2 : j < NB
                · obtain ⟨b2, o2, rfl, hc2⟩ := HBS.out (by omega)
                  obtain ⟨ja, jc, k1, k2, k3, k4⟩ := hc2 j hl2
                  have e0 := cell_below hb2 (Nat.le_refl _) k1
                  have HC := Lib.hid (HC5.out j hl2 wi ja jc k2 k3 (StsAt.below k4 hb2 (Nat.le_refl _)))
                  obtain ⟨BL, hBL⟩ : ∃ k, k = S.bl j := ⟨_, rfl⟩
                  rw [← hBL] at HC e0
                  have HB3 := Lib.hid hb2
                  have HNQ := Lib.hid hnq
                  clear hc2 k1 k4 k2 k3 hb2 hBL hnq
                  cases hq : Q j
                  · have HQ := Lib.hid hq
                    rw [hq] at HC
                    clear hq
                    go_wp2_with fail
                    refine HC.out.mono ?_
                    rintro en w2 ⟨rfl, hb3⟩
                    have HB4 := Lib.hid (HB3.out.trans (hb3.mono HB3.out.size))
                    clear hb3
                    go_wp2_with fail
                    go_roundw
                    case rel => exact ⟨j + 1, by omega, by go_num, fun i hi => by
                      rcases Nat.lt_succ_iff_lt_or_eq.1 hi with h | h
                      · exact HNQ.out i h
                      · rw [h]; exact HQ.out, HB4.out⟩
                    case measure => simp [intOf]; omega
                  · have HP := Lib.hid (show R = false from by rw [HR2.out, anyB_true hlt (by rw [HP5.out]; exact anyB_true hl2 hq)]; rfl)
                    rw [hq] at HC
                    clear hq
                    go_wp2_with fail
                    refine HC.out.mono ?_
                    rintro en w2 ⟨rfl, hb3⟩
                    have HB4 := Lib.hid (HB3.out.trans (hb3.mono HB3.out.size))
                    clear hb3
                    go_wp2_with fail
                    go_ret
                    exact ⟨by rw [HP.out]; rfl, HB4.out⟩
                · obtain rfl : j = NB := by omega
                  have HP := Lib.hid (show P i = false from by rw [HP5.out, anyB_false hnq])
                  have HB3 := Lib.hid hb2
                  clear hb2 hnq
                  go_wp2_with fail
                  go_roundw
                  case rel => exact ⟨i + 1, by omega, by go_num, fun k hk => by
                    rcases Nat.lt_succ_iff_lt_or_eq.1 hk with h | h
                    · exact HNO.out k h
                    · rw [h]; exact HP.out, HB3.out⟩
                  case measure => simp [intOf]; omega
      · obtain rfl : i = n := by omega
        have HP := Lib.hid (show R = true from by rw [HR2.out, anyB_false hno]; rfl)
        have HB := Lib.hid hb
        clear hno hb
        go_wp2_with fail
        go_ret
        exact ⟨by rw [HP.out]; rfl, HB.out⟩
end Go.Proofs.Ytipcnkgojonmjaa
