/- The contract of RiscFlags. -/
import Derived.Test.YtflinbfobadheaaRisc28
import Derived.Test.YtflinbfobadheaaRisc29
namespace Go.Proofs.Ytflinbfobadheaa
open Go.RowKit Go.Waf
set_option maxRecDepth 100000
set_option linter.unusedVariables false
attribute [local go_sem] mask16_u32

theorem over_eq (t : Int) (h0 : -9223372036854775808 ≤ t) (h1 : t ≤ 9223372036854775807) : over t = (decide (2147483647 < t) || decide (t < -2147483648)) := by
  unfold over
  rw [Bool.eq_iff_iff]
  simp only [bne_iff_ne, ne_eq, Bool.or_eq_true, decide_eq_true_eq]
  unfold wrap32; omega
theorem flag_lt (a b : Int) (ha : W32 a) (hb : W32 b) : decide (wrap32 a < wrap32 b) = (decide (2147483648 ≤ (a - b) % 4294967296) != over (wrap32 a - wrap32 b)) := by
  obtain ⟨a0, a1⟩ := ha
  obtain ⟨b0, b1⟩ := hb
  have wa := wrap32_le a
  have wb := wrap32_le b
  rw [over_eq _ (by omega) (by omega)]
  have e1 : wrap32 a = a ∨ wrap32 a = a - 4294967296 := by unfold wrap32; omega
  have e2 : wrap32 b = b ∨ wrap32 b = b - 4294967296 := by unfold wrap32; omega
  obtain ⟨PA, hPA⟩ : ∃ PA, wrap32 a = PA := ⟨_, rfl⟩
  obtain ⟨PB, hPB⟩ : ∃ PB, wrap32 b = PB := ⟨_, rfl⟩
  rw [hPA] at wa e1 ⊢
  rw [hPB] at wb e2 ⊢
  rw [Bool.eq_iff_iff]
  by_cases h1 : 2147483648 ≤ (a - b) % 4294967296 <;> by_cases h2 : 2147483647 < PA - PB <;> by_cases h3 : PA - PB < -2147483648 <;> simp [h1, h2, h3] <;> omega
theorem zero_eq (a b : Int) (ha : W32 a) (hb : W32 b) : (a == b) = ((a - b) % 4294967296 == 0) := by
  obtain ⟨a0, a1⟩ := ha
  obtain ⟨b0, b1⟩ := hb
  rw [Bool.eq_iff_iff, beq_iff_eq, beq_iff_eq]; omega
set_option maxHeartbeats 6400000 in
theorem riscFlags_any (a b : Int) (w : World) (w0 : (Lit.int .u32 a).wf = true) (w1 : (Lit.int .u32 b).wf = true) :
    Calls Try.prog 6 #[.int .u32 a, .int .u32 b] w fun e w' => e = .returned (.bool true) ∧ Below w.heap.size w w' := by
  obtain ⟨a0, a1⟩ := rng_u32 w0
  obtain ⟨b0, b1⟩ := rng_u32 w1
  have ha : W32 a := ⟨a0, by omega⟩
  have hb : W32 b := ⟨b0, by omega⟩
  have KN := Lib.hid (fun W => known_any W)
  obtain ⟨s5, h5, r3, n5, z5, c5, v5, o5, r4, n6, z6, c6, v6⟩ := flags_run a b ha hb
  have HFR := Lib.hid (flags_right a b ha hb)
  have HLT := Lib.hid (flag_lt a b ha hb)
  have HZE := Lib.hid (zero_eq a b ha hb)
  have H5 := Lib.hid h5
  have O5 := Lib.hid o5
  have O6 := Lib.hid (show s5.step.out.length ≤ 1000000 from by have := (step_out s5).1; rw [o5] at this; simp at this; omega)
  have e16a : a / 65536 ≤ 65535 := by omega
  have e16b : b / 65536 ≤ 65535 := by omega
  clear w0 w1 h5
  go_enter Try.func6, Try.ntmps6
  go_wp2_with (go_at_call 11; refine (KN.out _).mono ?_; rintro e wc ⟨rfl, hbc⟩)
  have HBC := Lib.hid hbc
  clear hbc
  refine (put_any _ (flagsL a b) HFR.out (by show (6 : Nat) ≤ 1000; omega) _ (rd_new wc (flat (flagsL a b)) 27 6 8 rfl (by decide))).mono ?_
  rintro e w2 ⟨cv, rfl, hown, hb2⟩
  have hb2' : Below w.heap.size w w2 := (HBC.out.alloc HBC.out.size _).trans (hb2.mono (by have := HBC.out.size; simp; omega))
  have HB2 := Lib.hid hb2'
  have HRC := Lib.hid (rd_of_owns hown)
  clear hown hb2 hb2'
  go_wp2_with fail
  refine (pnew_n _ _ _ 0 0 (.inl rfl) (flagsC a b) [] (fun x hx => ?_) (by show (6 : Nat) ≤ 1000; omega) (by simp) (by simp) (by omega) HRC.out (Rd.nil _ 1)).mono ?_
  · obtain ⟨i, hi, rfl⟩ := List.mem_map.1 hx
    exact enc_in i (HFR.out i hi)
  rintro e w5 ⟨q, F, cv1, mv, iv, rfl, hM, _, _, hb5⟩
  have HM := Lib.hid hM
  have HB5 := Lib.hid (HB2.out.trans (hb5.mono HB2.out.size))
  have HQ := Lib.hid HB2.out.size
  clear hM hb5
  go_wp2_with fail
  refine (prun_any HM.out 5 (by omega) (by omega) (by simp [St.new])).mono ?_
  rintro e w6 ⟨v, F', iv', ov', he, ho, hM6, _, _, hfr⟩
  obtain ⟨rv, hrv⟩ : ∃ rv, e = .returned rv := ⟨_, he⟩
  clear he
  subst hrv
  change Mach true w6 _ q F' cv1 mv iv' ov' ((St.new (flagsC a b) 0 []).stepN 5) at hM6
  rw [H5.out] at hM6
  have hp1 := preg_any hM6 3 (by omega)
  have hp2 := pflags_any hM6
  have hp3 := pstep_any hM6 (by rw [O5.out]; simp)
  rw [r3] at hp1
  rw [n5, z5, c5, v5] at hp2
  obtain ⟨X, hX⟩ : ∃ X, X = (a + b) % 4294967296 := ⟨_, rfl⟩
  obtain ⟨NB, hNB⟩ : ∃ NB, NB = decide (2147483648 ≤ X) := ⟨_, rfl⟩
  obtain ⟨ZB, hZB⟩ : ∃ ZB, ZB = (X == 0) := ⟨_, rfl⟩
  obtain ⟨CB, hCB⟩ : ∃ CB, CB = decide (4294967296 ≤ a + b) := ⟨_, rfl⟩
  obtain ⟨VB, hVB⟩ : ∃ VB, VB = over (wrap32 a + wrap32 b) := ⟨_, rfl⟩
  rw [← hX] at hp1 hp2
  rw [← hNB, ← hZB, ← hCB, ← hVB] at hp2
  have P1 := Lib.hid hp1
  have P2 := Lib.hid hp2
  have P3 := Lib.hid hp3
  have hM6' := hM6
  have HM6 := Lib.hid hM6'
  have HB6 := Lib.hid (HB5.out.trans (HM.out.fr_below HQ.out hfr))
  have Xr : 0 ≤ X ∧ X < 4294967296 := by omega
  have wa := wrap32_le a
  have wb := wrap32_le b
  have t1 : decide (wrap32 X < 0) = NB := by rw [hNB]; exact neg32 X ⟨Xr.1, Xr.2⟩
  have t2 : (X == 0) = ZB := hZB.symm
  have t3 : decide (4294967295 < a + b) = CB := by rw [hCB, decide_eq_decide]; omega
  have t4 := over_eq (wrap32 a + wrap32 b) (by omega) (by omega)
  rw [← hVB] at t4
  have eX : (a + b) % 4294967296 = X := hX.symm
  obtain ⟨x0, x1⟩ := Xr
  obtain ⟨p0, p1⟩ := wa
  obtain ⟨p2, p3⟩ := wb
  obtain ⟨PA, hPA⟩ : ∃ PA, wrap32 a = PA := ⟨_, rfl⟩
  obtain ⟨PB, hPB⟩ : ∃ PB, wrap32 b = PB := ⟨_, rfl⟩
  rw [hPA] at t4 p0 p1 v6
  rw [hPB] at t4 p2 p3 v6
  have R4 := Lib.hid r4
  have N6 := Lib.hid n6
  have Z6 := Lib.hid z6
  have C6 := Lib.hid c6
  have V6 := Lib.hid v6
  clear r3 n5 z5 c5 v5 r4 n6 z6 c6 v6 ho hM6 hM6' hfr hp1 hp2 hp3 hX hNB hZB hCB hVB H5 O5 ha hb HM
  have hcs : (decide (2147483647 < PA + PB) = true ∧ VB = true) ∨ (decide (2147483647 < PA + PB) = false ∧ decide (PA + PB < -2147483648) = VB) := by
    cases hd : decide (2147483647 < PA + PB)
    · exact .inr ⟨rfl, by rw [t4, hd]; simp⟩
    · exact .inl ⟨rfl, by rw [t4, hd]; simp⟩
  clear t4
  rcases hcs with ⟨s1, rfl⟩ | ⟨s1, s2⟩
  all_goals
    go_wp2_with fail
    refine P1.out.mono ?_; rintro e wz ⟨rfl, rfl⟩
    go_wp2_with fail
    refine P2.out.mono ?_; rintro e wz ⟨rfl, nd, rfl⟩
    go_wp2_with fail
    refine (pstep_any (HM6.out.drewN nd) (by rw [o5]; simp)).mono ?_
    rintro e w7 ⟨rfl, ⟨F7, iv7, ov7, hM7, _, _⟩, hf7⟩
    have hq1 := preg_any hM7 4 (by omega)
    have hq2 := pflags_any hM7
    rw [R4.out] at hq1
    rw [N6.out, Z6.out, C6.out, V6.out] at hq2
    have hlt := HLT.out
    have hze := HZE.out
    rw [hPA, hPB] at hlt
    have t4 := over_eq (PA - PB) (by omega) (by omega)
    obtain ⟨D, hD⟩ : ∃ D, D = (a - b) % 4294967296 := ⟨_, rfl⟩
    rw [← hD] at hq1 hq2 hlt hze
    obtain ⟨N2, hN2⟩ : ∃ NB, NB = decide (2147483648 ≤ D) := ⟨_, rfl⟩
    obtain ⟨Z2, hZ2⟩ : ∃ ZB, ZB = (D == 0) := ⟨_, rfl⟩
    obtain ⟨C2, hC2⟩ : ∃ CB, CB = decide (a < b) := ⟨_, rfl⟩
    obtain ⟨V2, hV2⟩ : ∃ VB, VB = over (PA - PB) := ⟨_, rfl⟩
    rw [← hN2, ← hZ2, ← hC2, ← hV2] at hq2
    rw [← hN2, ← hV2] at hlt
    rw [← hZ2] at hze
    rw [← hV2] at t4
    have Dr : 0 ≤ D ∧ D < 4294967296 := by omega
    have u1 : decide (wrap32 D < 0) = N2 := by rw [hN2]; exact neg32 D ⟨Dr.1, Dr.2⟩
    have u3 : decide (a < b) = C2 := hC2.symm
    have eD : (a - b) % 4294967296 = D := hD.symm
    have Q1 := Lib.hid hq1
    have Q2 := Lib.hid hq2
    have HB7 := Lib.hid ((Go.Waf.below_drewN HB6.out nd).trans ((HM6.out.drewN nd).fr_below HQ.out hf7))
    have hcs2 : (decide (2147483647 < PA - PB) = true ∧ V2 = true) ∨ (decide (2147483647 < PA - PB) = false ∧ decide (PA - PB < -2147483648) = V2) := by
      cases hd : decide (2147483647 < PA - PB)
      · exact .inr ⟨rfl, by rw [t4, hd]; simp⟩
      · exact .inl ⟨rfl, by rw [t4, hd]; simp⟩
    obtain ⟨d0, d1⟩ := Dr
    clear t4 hq1 hq2 hD hN2 hZ2 hC2 hV2 hM7 hf7
    rcases hcs2 with ⟨s3, rfl⟩ | ⟨s3, s4⟩
    all_goals
      go_wp2_with fail
      refine Q1.out.mono ?_; rintro e wz ⟨rfl, rfl⟩
      go_wp2_with fail
      refine Q2.out.mono ?_; rintro e wz ⟨rfl, nd2, rfl⟩
      go_wp2_with fail
      go_ret
      exact ⟨by first | (cases N2 <;> cases V2 <;> simp) | (cases N2 <;> simp), Go.Waf.below_drewN HB7.out nd2⟩
end Go.Proofs.Ytflinbfobadheaa
