/- The contract of RiscTogether. -/
import Derived.Test.YtflinbfobadheaaRisc24
namespace Go.Proofs.Ytflinbfobadheaa
open Go.RowKit Go.Waf
set_option maxRecDepth 100000
set_option linter.unusedVariables false

set_option maxHeartbeats 6400000 in
theorem riscTogether_any (a0 : Option Addr) (len0 cap0 : Nat) (a2 : Option Addr) (len2 cap2 : Nat) (z2 : List Int) (av bv : Int) (w : World) (w0 : InsAt w a0 len0 cap0) (w2 : RowOf .u8 w a2 len2 cap2 z2) (w1 : (Lit.int .u8 av).wf = true) (w3 : (Lit.int .u8 bv).wf = true) :
    Calls Try.prog 5 #[.slice a0 len0 cap0, .slice a2 len2 cap2, .int .u8 av, .int .u8 bv] w fun e w' => e = .returned (.bool true) ∧ Below w.heap.size w w' := by
  obtain ⟨n0, n1⟩ := rng_u8 w1
  obtain ⟨f0, f1⟩ := rng_u8 w3
  have l0 := w0.le
  have l1 := w0.cap63
  obtain ⟨l2, l3⟩ := w2.bounds
  have KN := Lib.hid (fun W => known_any W)
  by_cases hbig : 40 < len0 ∨ 20 < len2
  · have hsplit : 40 < len0 ∨ (len0 ≤ 40 ∧ 20 < len2) := by omega
    clear w0 w1 w2 w3 hbig
    rcases hsplit with h | ⟨h, h'⟩
    all_goals
      go_enter Try.func5, Try.ntmps5
      go_wp2_with (go_at_call 11; refine (KN.out _).mono ?_; rintro e w1 ⟨rfl, hb1⟩)
      go_ret
      exact ⟨rfl, hb1⟩
  · have hl0 : len0 ≤ 40 := by omega
    have hl2 : len2 ≤ 20 := by omega
    have W0 := Lib.hid w0
    have ri := w2.rd
    have hi := byte_of_row w2
    have hil := w2.len
    obtain ⟨inp, hinp⟩ : ∃ c, c = z2.take len2 := ⟨_, rfl⟩
    rw [← hinp] at ri hi hil
    have ri' : Rd w 1 (.slice a2 len2 cap2) inp.length (byt inp) := by rw [hil]; exact ri
    have RI := Lib.hid ri'
    have HI := Lib.hid hi
    have hil' : inp.length ≤ 20 := by omega
    have IB := Lib.hid (fun k (hk : (Value.slice a2 len2 cap2).ownBlock = some k) (hn : 0 < inp.length) => rd_block RI.out (by decide) hn hk)
    obtain ⟨AU, rfl⟩ := Int.eq_ofNat_of_zero_le n0
    obtain ⟨FU, rfl⟩ := Int.eq_ofNat_of_zero_le f0
    clear w0 w1 w2 w3 hbig ri hi hinp ri' hil
    go_enter Try.func5, Try.ntmps5
    go_wp2_with (go_at_call 11; refine (KN.out _).mono ?_; rintro e wc ⟨rfl, hbc⟩)
    have HBC := Lib.hid hbc
    clear hbc
    go_loopw [9, 10] (fun c i wr => ∃ (k : Nat) (ys : List Int), k ≤ len0 ∧ i = .int .i64 k ∧ (∀ x ∈ ys, W32 x) ∧ ys.length = k ∧ wr.ownsRow w.heap.size 37 1 c k (u32s ys) ∧ Below w.heap.size w wr) (fun _ i _ => len0 - (intOf i).toNat)
    case atStart => exact ⟨0, [], by omega, rfl, by simp, rfl, World.ownsRow_nil _ _ _ _, HBC.out⟩
    case round =>
      obtain ⟨k, ys, hk, rfl, hys, hyl, hown, hb⟩ := hrel
      have HYS := Lib.hid hys
      have HYL := Lib.hid hyl
      have HOWN := Lib.hid hown
      have HB := Lib.hid hb
      have hsz := hb.size
      by_cases hlt : k < len0
      · obtain ⟨b, off, rfl, hbl, hcs⟩ := W0.out.cells (by omega)
        obtain ⟨F, A, B, C, O, M, U, V, c0, c1, c2, c3, c4, c5, c6, c7, hw⟩ := word_at wr ((hcs k hlt).below HB.out hbl)
        have HW := Lib.hid hw
        have k0 : (0 : Int) ≤ (k : Int) := by omega
        have k1 : (k : Int) < (len0 : Int) := by omega
        clear hys hyl hown hb hcs hw
        go_wp2_with (first
          | (go_at_call 15; refine (HW.out _).mono ?_; rintro e wx ⟨x, hx, rfl, hbx⟩; have hrow := (Fr.of_new hbx (F := fun _ => False)).owns HOWN.out (fun _ _ h => h); have HROW := Lib.hid hrow; have HX := Lib.hid hx; have HBX := Lib.hid (HB.out.trans (hbx.mono hsz)); clear hrow hx hbx)
          | (at_builtin; refine app_own _ elemU14 rfl _ _ rfl w.heap.size _ k (u32s ys) rfl (HROW.out.alloc _) _ 1 (u32s [x]) rfl (rd_new wx (u32s [x]) 37 1 1 rfl (by decide)) (one_u32s _) (by simp only [maxLen]; omega) (by omega) (by have := HBX.out.size; simp; omega) ?_; intro v' w3 hown3 hg3))
        go_roundw
        case rel =>
          refine ⟨k + 1, ys ++ [x], by omega, by go_num, ?_, by simp [HYL.out], by rw [u32s_append]; exact hown3, below_of_grown (HBX.out.alloc HBX.out.size _) (by have := HBX.out.size; simp; omega) (HROW.out.alloc _) (Nat.le_refl _) rfl hg3⟩
          intro y hy
          rcases List.mem_append.1 hy with h | h
          · exact HYS.out y h
          · rw [List.mem_singleton.1 h]; exact HX.out
        case measure => simp [intOf]; omega
      · obtain rfl : k = len0 := by omega
        have hyl' : ys.length ≤ 40 := by omega
        obtain ⟨ca, cc, rfl, _, _, _⟩ := owns_shape hown
        have hrc : Rd wr 1 (.slice ca k cc) ys.length (u32s ys) := by rw [hyl]; exact rd_of_owns hown
        have hcb : ∀ kk, (Value.slice ca k cc).ownBlock = some kk → 0 < ys.length → kk < wr.heap.size := fun kk h hn => rd_block hrc (by decide) hn h
        have HRC := Lib.hid hrc
        have HCB := Lib.hid hcb
        clear hys hyl hown hb hrc hcb
        go_wp2_with fail
        refine (pnew_n _ _ _ 16 16 (.inl rfl) ys inp HYS.out (by omega) HI.out (by omega) (by omega) HRC.out (RI.out.below HB.out (Nat.le_refl _))).mono ?_
        intro ea wa hA
        have HA := Lib.hid hA
        obtain ⟨q1, F1, cv1, mv1, iv1, rfl, _, _, _, hba⟩ := hA
        have HBA := Lib.hid (HB.out.trans (hba.mono HB.out.size))
        have HBA1 := Lib.hid hba
        clear hba
        go_wp2_with fail
        refine (pnew_n _ _ _ 16 16 (.inl rfl) ys inp HYS.out (by omega) HI.out (by omega) (by omega) (HRC.out.below HBA1.out (Nat.le_refl _)) (RI.out.below HBA.out (Nat.le_refl _))).mono ?_
        intro eb wb hB
        obtain ⟨q1', q2, cv1, mv1, cv2, mv2, he1, rfl, hD, hbb⟩ := duo_new (base := w.heap.size) HB.out.size HA.out hB (fun kk h hn => .inr h) (fun kk h hn => .inr h) (fun k hk => hk) (fun k hk => hk)
        obtain rfl : q1 = q1' := by injection he1 with h; injection h with h; injection h with h; injection h
        have HD := Lib.hid hD
        have HBW := Lib.hid (HB.out.trans (hbb.mono HB.out.size))
        have hs0 : (St.new ys 16 inp).out.length = 0 := rfl
        obtain ⟨s, hs⟩ : ∃ s, s = St.new ys 16 inp := ⟨_, rfl⟩
        rw [← hs] at hs0
        have HD0 := Lib.hid (show Duo true true wb w.heap.size q1 q2 (fun _ => False) cv1 mv1 cv2 mv2 s s from by rw [hs]; exact HD.out)
        have hso1 := (stepN_out s AU).1
        have hso2 := (stepN_out s (AU + FU)).1
        have hadd : ((AU : Int) + (FU : Int)).toNat = AU + FU := by omega
        have hst : (s.stepN AU).stepN FU = s.stepN (AU + FU) := (St.stepN_add s AU FU).symm
        rw [hs0] at hso1 hso2
        have HADD := Lib.hid hadd
        have HST := Lib.hid hst
        clear hB hD hbb he1 hs HD hadd hst
        go_wp2_with fail
        refine (duo_run_pl HD0.out (AU : Int) (by omega) (by omega) (by omega)).mono ?_
        rintro e w5 ⟨va, vc, rfl, hva, hD5, hb5⟩
        rw [Int.toNat_natCast] at hD5
        have HD5 := Lib.hid hD5
        have HB5 := Lib.hid (HBW.out.trans hb5)
        clear hva hD5 hb5
        go_wp2_with fail
        refine (duo_run_pl HD5.out (FU : Int) (by omega) (by omega) (by omega)).mono ?_
        rintro e w6 hR
        rw [Int.toNat_natCast, HST.out] at hR
        obtain ⟨va, vc, rfl, hva, hD6, hb6⟩ := hR
        have HVA := Lib.hid hva
        have HD6 := Lib.hid hD6
        have HB6 := Lib.hid (HB5.out.trans hb6)
        clear hva hD6 hb6
        go_wp2_with fail
        refine (duo_run_p2 HD6.out ((AU : Int) + (FU : Int)) (by omega) (by omega) (by omega)).mono ?_
        rintro e w7 hR
        rw [HADD.out] at hR
        obtain ⟨vb, vd, rfl, hvb, ⟨B1, B2, G1, G2, jv1, ov1, jv2, ov2, hD7⟩, hb7, G, hG, hRG⟩ := hR
        have HVA7 := Lib.hid (rd_fr HVA.out hG hRG)
        have HVB := Lib.hid hvb
        have HD7 := Lib.hid hD7
        have HB7 := Lib.hid (HB6.out.trans hb7)
        clear hvb hD7 hb7 hG hRG
        go_wp2_with fail
        refine (hresult_any _ _ _ _ _ _ HVA7.out HVB.out).mono ?_
        rintro e w8 ⟨rfl, hb8⟩
        have HB8 := Lib.hid hb8
        clear hb8
        go_wp2_with fail
        refine (ppc_any (HD7.out.m1.below HB8.out)).mono ?_
        rintro e w9 ⟨rfl, rfl⟩
        go_wp2_with fail
        refine (ppc_any (HD7.out.m2.below HB8.out)).mono ?_
        rintro e w9 ⟨rfl, rfl⟩
        go_wp2_with fail
        go_ret
        exact ⟨by simp, HB7.out.trans (HB8.out.mono HB7.out.size)⟩
end Go.Proofs.Ytflinbfobadheaa
