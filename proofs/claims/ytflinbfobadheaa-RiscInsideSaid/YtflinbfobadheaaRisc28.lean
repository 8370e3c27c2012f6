/- The contract of RiscEcho. -/
import Derived.Test.YtflinbfobadheaaRisc27
namespace Go.Proofs.Ytflinbfobadheaa
open Go.RowKit Go.Waf
set_option maxRecDepth 100000
set_option linter.unusedVariables false

theorem map_inj_end (s : St) : s.stepN 0 = s := rfl
/-- A new machine's run, and the result in a box of the caller's. -/
theorem conv_at (W : World) (va : Option Addr) (n vc : Nat) (xs : List Int) (hn : xs.length = n) (h : Rd W 1 (.slice va n vc) n (byt xs)) : (convert 22 9 (.slice va n vc)).run Try.prog W = .ok (.string (strOfNums xs)) W := by
  subst hn; exact conv_box W _ xs h
set_option maxHeartbeats 3200000 in
theorem riscEcho_any (a0 : Option Addr) (len0 cap0 : Nat) (z0 : List Int) (w : World) (w0 : RowOf .u8 w a0 len0 cap0 z0) :
    Calls Try.prog 3 #[.slice a0 len0 cap0] w fun e w' => e = .returned (.bool true) ∧ Below w.heap.size w w' := by
  obtain ⟨l0, l1⟩ := w0.bounds
  have KN := Lib.hid (fun W => known_any W)
  by_cases hbig : 60 < len0
  · clear w0
    go_enter Try.func3, Try.ntmps3
    go_wp2_with (go_at_call 11; refine (KN.out _).mono ?_; rintro e w1 ⟨rfl, hb1⟩)
    go_ret
    exact ⟨rfl, hb1⟩
  · have hl0 : len0 ≤ 60 := by omega
    have ri := w0.rd
    have hi := byte_of_row w0
    have hil := w0.len
    obtain ⟨inp, hinp⟩ : ∃ c, c = z0.take len0 := ⟨_, rfl⟩
    rw [← hinp] at ri hi hil
    obtain ⟨re1, re2⟩ := echo_run inp hi
    rw [hil] at re1 re2
    have RI := Lib.hid ri
    have HI := Lib.hid hi
    have HIL := Lib.hid hil
    have RE1 := Lib.hid re1
    have RE2 := Lib.hid re2
    have hcall : (5 * (len0 : Int) + 3).toNat = 5 * len0 + 3 := by omega
    have HCALL := Lib.hid hcall
    clear w0 ri hi hil hinp re1 re2 hcall
    go_enter Try.func3, Try.ntmps3
    go_wp2_with (go_at_call 11; refine (KN.out _).mono ?_; rintro e wc ⟨rfl, hbc⟩)
    have HBC := Lib.hid hbc
    clear hbc
    refine (put_any _ echo echo_right (by decide) _ (rd_new wc (flat echo) 27 6 8 rfl (by decide))).mono ?_
    rintro e w2 ⟨cv, rfl, hown, hb2⟩
    have hb2' : Below w.heap.size w w2 := (HBC.out.alloc HBC.out.size _).trans (hb2.mono (by have := HBC.out.size; simp; omega))
    have HB2 := Lib.hid hb2'
    have HRC := Lib.hid (rd_of_owns hown)
    clear hown hb2 hb2'
    go_wp2_with fail
    refine (pnew_n _ _ _ 0 0 (.inl rfl) echoC inp (fun x hx => ?_) (by decide) HI.out (by have := HIL.out; omega) (by omega) HRC.out (by rw [HIL.out]; exact RI.out.below HB2.out (Nat.le_refl _))).mono ?_
    · obtain ⟨i, hi, rfl⟩ := List.mem_map.1 hx
      exact enc_in i (echo_right i hi)
    rintro e w5 ⟨q, F, cv1, mv, iv, rfl, hM, _, _, hb5⟩
    have HM := Lib.hid hM
    have HB5 := Lib.hid (HB2.out.trans (hb5.mono HB2.out.size))
    have HQ := Lib.hid HB2.out.size
    clear hM hb5
    go_wp2_with fail
    refine (prun_any HM.out (5 * (len0 : Int) + 3) (by omega) (by omega) (by simp [St.new])).mono ?_
    rintro e w6 ⟨v, F', iv', ov', he, ho, hM6, _, _, hfr⟩
    rw [HCALL.out] at he ho
    rw [RE1.out] at ho
    rw [RE2.out] at he
    obtain ⟨tr, htr⟩ : ∃ tr, tr = ((St.new echoC 0 inp).stepN (5 * len0 + 3)).trap := ⟨_, rfl⟩
    rw [← htr] at he
    subst he
    rw [HIL.out] at ho
    obtain ⟨va, vc, rfl, _, _, _⟩ := owns_shape ho
    have hb6 : Below w.heap.size w w6 := HB5.out.trans (HM.out.fr_below HQ.out hfr)
    have k1 := fun O : Obj => conv_at _ va len0 vc inp HIL.out ((rd_of_owns ho).below ((Below.refl _ _).alloc (Nat.le_refl _) O) (Nat.le_refl _))
    have k2 := fun O : Obj => conv_at _ a0 len0 cap0 inp HIL.out (RI.out.below (hb6.alloc hb6.size O) (Nat.le_refl _))
    have HB6 := Lib.hid hb6
    clear htr ho hM6 hfr hb6
    go_wp2_with fail
    go_ret
    exact ⟨rfl, HB6.out.alloc HB6.out.size _⟩
end Go.Proofs.Ytflinbfobadheaa
