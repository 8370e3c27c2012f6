/- The contract of RiscInside. -/
import Derived.Test.YtflinbfobadheaaRisc32
import Derived.Test.YtflinbfobadheaaRisc35
namespace Go.Proofs.Ytflinbfobadheaa
open Go.RowKit Go.Waf
set_option maxRecDepth 100000
set_option linter.unusedVariables false
attribute [local go_sem] mask16_u32

theorem enc_agg (f : Int) (u v : Bool) (a b c op imm : Int) (h : Right ⟨f, u, v, a, b, c, op, imm⟩) (W : World) :
    Calls Try.prog 22 #[.agg #[.int .i64 f, .bool u, .bool v, .int .i64 a, .int .i64 b, .int .i64 c, .int .i64 op, .int .i32 imm]] W fun e w' => e = .returned (.tuple #[.int .u32 (encW ⟨f, u, v, a, b, c, op, imm⟩), .bool true]) ∧ Below W.heap.size W w' := renc_any _ h W
set_option maxHeartbeats 6400000 in
theorem riscInside_any (P n : Int) (st : Bool) (v : Int) (w : World) (w0 : (Lit.int .u32 P).wf = true) (w1 : (Lit.int .u8 n).wf = true) (w3 : (Lit.int .u16 v).wf = true) :
    Calls Try.prog 8 #[.int .u32 P, .int .u8 n, .bool st, .int .u16 v] w fun e w' => e = .returned (.bool true) ∧ Below w.heap.size w w' := by
  obtain ⟨p0, p1⟩ := rng_u32 w0
  obtain ⟨n0, n1⟩ := rng_u8 w1
  obtain ⟨v0, v1⟩ := rng_u16 w3
  obtain ⟨N, rfl⟩ := Int.eq_ofNat_of_zero_le n0
  have hW : W32 P := ⟨p0, by omega⟩
  have hv : 0 ≤ v ∧ v < 65536 := ⟨v0, by omega⟩
  have KN := Lib.hid (fun W => known_any W)
  obtain ⟨s, hs, hml, hA, hB, hC⟩ := ins_run P v st N hW hv
  have hin := ins_right P v st hW hv
  have r0 := hin ⟨1, true, false, 2, 0, 0, 0, P / 65536⟩ (by simp [insL])
  have r1 := hin ⟨1, false, false, 2, 2, 0, 6, P % 65536⟩ (by simp [insL])
  have r2 := hin ⟨1, false, false, 3, 0, 0, 0, v⟩ (by simp [insL])
  have r3 := hin ⟨2, st, false, 3, 2, 0, 0, 0⟩ (by simp [insL])
  have r4 := hin ⟨3, false, true, 7, 0, 12, 0, 0⟩ (by simp [insL])
  have q0 := fun W => enc_agg _ _ _ _ _ _ _ _ r0 W
  have q1 := fun W => enc_agg _ _ _ _ _ _ _ _ r1 W
  have q2 := fun W => enc_agg _ _ _ _ _ _ _ _ r2 W
  have q3 := fun W => enc_agg _ _ _ _ _ _ _ _ r3 W
  have q4 := fun W => enc_agg _ _ _ _ _ _ _ _ r4 W
  obtain ⟨X0, hX0⟩ : ∃ X, X = encW ⟨1, true, false, 2, 0, 0, 0, P / 65536⟩ := ⟨_, rfl⟩
  obtain ⟨X1, hX1⟩ : ∃ X, X = encW ⟨1, false, false, 2, 2, 0, 6, P % 65536⟩ := ⟨_, rfl⟩
  obtain ⟨X2, hX2⟩ : ∃ X, X = encW ⟨1, false, false, 3, 0, 0, 0, v⟩ := ⟨_, rfl⟩
  obtain ⟨X3, hX3⟩ : ∃ X, X = encW ⟨2, st, false, 3, 2, 0, 0, 0⟩ := ⟨_, rfl⟩
  obtain ⟨X4, hX4⟩ : ∃ X, X = encW ⟨3, false, true, 7, 0, 12, 0, 0⟩ := ⟨_, rfl⟩
  rw [← hX0] at q0
  rw [← hX1] at q1
  rw [← hX2] at q2
  rw [← hX3] at q3
  rw [← hX4] at q4
  have hcode : insC P st v = [X0, X1, X2, X3, X4] := by rw [hX0, hX1, hX2, hX3, hX4]; rfl
  have hk : ∀ x ∈ [X0, X1, X2, X3, X4], W32 x := by
    rw [← hcode]; intro x hx
    obtain ⟨i, hi, rfl⟩ := List.mem_map.1 hx
    exact enc_in i (hin i hi)
  rw [hcode] at hs
  have Q0 := Lib.hid q0
  have Q1 := Lib.hid q1
  have Q2 := Lib.hid q2
  have Q3 := Lib.hid q3
  have Q4 := Lib.hid q4
  have HS := Lib.hid hs
  have HML := Lib.hid hml
  have HA := Lib.hid hA
  have HB := Lib.hid hB
  have HC := Lib.hid hC
  have HK := Lib.hid hk
  have e16 : P / 65536 ≤ 65535 := by omega
  clear w0 w1 w3 hs hml hA hB hC hin r0 r1 r2 r3 r4 q0 q1 q2 q3 q4 hX0 hX1 hX2 hX3 hX4 hcode hk hW hv
  go_enter Try.func8, Try.ntmps8
  go_wp2_with (go_at_call 11; refine (KN.out _).mono ?_; rintro e wc ⟨rfl, hbc⟩)
  refine (Q0.out _).mono ?_; rintro e x1 ⟨rfl, g1⟩
  have G1 := Lib.hid (hbc.trans (g1.mono hbc.size))
  clear hbc g1
  go_wp2_with fail
  refine (Q1.out _).mono ?_; rintro e x2 ⟨rfl, g2⟩
  have G2 := Lib.hid (G1.out.trans (g2.mono G1.out.size))
  clear g2
  go_wp2_with fail
  refine (Q2.out _).mono ?_; rintro e x3 ⟨rfl, g3⟩
  have G3 := Lib.hid (G2.out.trans (g3.mono G2.out.size))
  clear g3
  go_wp2_with fail
  refine (Q3.out _).mono ?_; rintro e x4 ⟨rfl, g4⟩
  have G4 := Lib.hid (G3.out.trans (g4.mono G3.out.size))
  clear g4
  go_wp2_with fail
  refine (Q4.out _).mono ?_; rintro e x5 ⟨rfl, g5⟩
  have G5 := Lib.hid (G4.out.trans (g5.mono G4.out.size))
  clear g5
  go_wp2_with fail
  have hrc : Rd ((x5.alloc (.cells #[.int .u32 X0, .int .u32 X1, .int .u32 X2, .int .u32 X3, .int .u32 X4] 37)).alloc (.cells #[.int .u8 9] 5)) 1 (.slice (some ⟨x5.heap.size, 0, none⟩) 5 5) 5 (u32s [X0, X1, X2, X3, X4]) :=
    (rd_new x5 (u32s [X0, X1, X2, X3, X4]) 37 5 1 rfl (by decide)).below ((Below.refl _ _).alloc (Nat.le_refl _) _) (Nat.le_refl _)
  have hri : Rd ((x5.alloc (.cells #[.int .u32 X0, .int .u32 X1, .int .u32 X2, .int .u32 X3, .int .u32 X4] 37)).alloc (.cells #[.int .u8 9] 5)) 1 (.slice (some ⟨x5.heap.size + 1, 0, none⟩) 1 1) 1 (byt [9]) := by
    have h := rd_new (x5.alloc (.cells #[.int .u32 X0, .int .u32 X1, .int .u32 X2, .int .u32 X3, .int .u32 X4] 37)) (byt [9]) 5 1 1 rfl (by decide)
    rw [World.size_alloc] at h
    exact h
  have HRC := Lib.hid hrc
  have HRI := Lib.hid hri
  have hbz := HBR G5.out (.cells #[.int .u32 X0, .int .u32 X1, .int .u32 X2, .int .u32 X3, .int .u32 X4] 37) (.cells #[.int .u8 9] 5)
  have HBZ := Lib.hid hbz
  clear hrc hri hbz
  refine (pnew_n _ _ _ N (N : Int) (.inl rfl) [X0, X1, X2, X3, X4] [9] HK.out (by simp) (by intro x hx; rw [List.mem_singleton.1 hx]; exact ⟨by decide, by decide⟩) (by simp) (by omega) HRC.out HRI.out).mono ?_
  rintro e w5 ⟨q, F, cv1, mv, iv, rfl, hM, _, _, hb5⟩
  have HM := Lib.hid hM
  have HB5 := Lib.hid (HBZ.out.trans (hb5.mono HBZ.out.size))
  have HQ := Lib.hid HBZ.out.size
  clear hM hb5
  go_wp2_with fail
  refine (prun_any HM.out 9 (by omega) (by omega) (by simp [St.new])).mono ?_
  rintro e w6 ⟨rv, F', iv', ov', he, ho, hM6, _, _, hfr⟩
  change e = .returned (.agg #[rv, .int .i64 ((St.new [X0, X1, X2, X3, X4] N [9]).stepN 9).fin, .int .i64 ((St.new [X0, X1, X2, X3, X4] N [9]).stepN 9).trap]) at he
  change Mach true w6 _ q F' cv1 mv iv' ov' ((St.new [X0, X1, X2, X3, X4] N [9]).stepN 9) at hM6
  change w6.ownsRow _ _ _ rv ((St.new [X0, X1, X2, X3, X4] N [9]).stepN 9).out.length (byt ((St.new [X0, X1, X2, X3, X4] N [9]).stepN 9).out) at ho
  rw [HS.out] at he ho hM6
  obtain ⟨va, vc, rfl, _, _, _⟩ := owns_shape ho
  have HB6 := Lib.hid (HB5.out.trans (HM.out.fr_below HQ.out hfr))
  have HM6 := Lib.hid hM6
  have HE := Lib.hid he
  clear ho hM6 hfr HM he
  by_cases hAc : P = 4294967232 ∨ (P = 4294967236 ∧ st = false)
  · have hf := HA.out hAc
    have he := HE.out
    rw [hf] at he
    obtain ⟨tr, htr⟩ : ∃ tr, tr = s.trap := ⟨_, rfl⟩
    obtain ⟨on, hon⟩ : ∃ on, on = s.out.length := ⟨_, rfl⟩
    rw [← htr, ← hon] at he
    subst he
    have ht : (P == 4294967232) = true ∨ ((P == 4294967232) = false ∧ (P == 4294967236) = true ∧ st = false) := by
      rcases hAc with h | ⟨h, h2⟩
      · exact .inl (by simp [h])
      · exact .inr ⟨by rw [beq_eq_false_iff_ne]; omega, by simp [h], h2⟩
    clear hAc hf htr hon HA HB HC HE HS HML
    rcases ht with t1 | ⟨t1, t2, rfl⟩
    all_goals
      go_wp2_with fail
      go_ret
      exact ⟨rfl, HB6.out.alloc HB6.out.size _⟩
  · have t1 : (P == 4294967232) = false := by rw [beq_eq_false_iff_ne]; intro h; exact hAc (.inl h)
    have t2 : (P == 4294967236) = false ∨ ((P == 4294967236) = true ∧ st = true) := by
      by_cases h : P = 4294967236
      · refine .inr ⟨by simp [h], ?_⟩
        cases st
        · exact absurd (.inr ⟨h, rfl⟩) hAc
        · rfl
      · exact .inl (by rw [beq_eq_false_iff_ne]; exact h)
    by_cases hBc : P % 4 ≠ 0 ∨ (N : Int) ≤ P / 4
    · obtain ⟨hf, htp, hou⟩ := HB.out hAc hBc
      have he := HE.out
      rw [hf, htp, hou] at he
      subst he
      have hu : (P % 4 != 0) = true ∨ ((P % 4 != 0) = false ∧ decide ((N : Int) ≤ P / 4) = true) := by
        by_cases h : P % 4 = 0
        · exact .inr ⟨by simp [h], by simp; omega⟩
        · exact .inl (by simp [h])
      have d0 : 0 ≤ P / 4 := by omega
      have d1 : P / 4 ≤ 1073741823 := by omega
      clear hAc hBc hf htp hou HA HB HC HE HS HML
      rcases t2 with t2 | ⟨t2, rfl⟩ <;> rcases hu with u1 | ⟨u1, u2⟩
      all_goals
        go_wp2_with fail
        go_ret
        exact ⟨rfl, HB6.out.alloc HB6.out.size _⟩
    · have h40 : P % 4 = 0 := by omega
      have hlt : P / 4 < (N : Int) := by omega
      obtain ⟨hf, hmv⟩ := HC.out hAc h40 hlt
      have he := HE.out
      rw [hf] at he
      obtain ⟨tr, htr⟩ : ∃ tr, tr = s.trap := ⟨_, rfl⟩
      obtain ⟨on, hon⟩ : ∃ on, on = s.out.length := ⟨_, rfl⟩
      rw [← htr, ← hon] at he
      subst he
      obtain ⟨A, hA4⟩ := Int.eq_ofNat_of_zero_le (show 0 ≤ P / 4 by omega)
      have hAN : A < N := by omega
      rw [hA4, Int.toNat_natCast] at hmv
      have hw := fun O : Obj => pword_any (HM6.out.alloc O) A (by rw [HML.out]; exact hAN)
      rw [hmv] at hw
      have HWD := Lib.hid hw
      have u1 : (P % 4 != 0) = false := by simp [h40]
      have u2 : decide ((N : Int) ≤ (A : Int)) = false := by simp; omega
      clear hAc hBc h40 hlt hf hmv htr hon hw HA HB HC HE HS HML
      rcases t2 with t2 | ⟨t2, rfl⟩
      · cases st
        all_goals
          go_wp2_with fail
          refine (HWD.out _).mono ?_; rintro e wz ⟨rfl, rfl⟩
          go_wp2_with fail
          go_ret
          exact ⟨by simp, HB6.out.alloc HB6.out.size _⟩
      · go_wp2_with fail
        refine (HWD.out _).mono ?_; rintro e wz ⟨rfl, rfl⟩
        go_wp2_with fail
        go_ret
        exact ⟨by simp, HB6.out.alloc HB6.out.size _⟩
end Go.Proofs.Ytflinbfobadheaa
