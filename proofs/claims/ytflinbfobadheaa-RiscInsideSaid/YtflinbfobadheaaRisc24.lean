/- The contract of RiscSteps. -/
import Derived.Test.YtflinbfobadheaaRisc23
namespace Go.Proofs.Ytflinbfobadheaa
open Go.RowKit Go.Waf
set_option maxRecDepth 100000
set_option linter.unusedVariables false

theorem word_at (w : World) {b o : Nat} (h : InsCells w b o) : ∃ F A B C O M : Int, ∃ U V : Bool,
    w.cell? ⟨b, o, none⟩ = some (.int .u8 F) ∧ w.cell? ⟨b, o + 1, none⟩ = some (.int .u8 A) ∧ w.cell? ⟨b, o + 2, none⟩ = some (.int .u8 B) ∧ w.cell? ⟨b, o + 3, none⟩ = some (.int .u8 C) ∧
    w.cell? ⟨b, o + 4, none⟩ = some (.int .u8 O) ∧ w.cell? ⟨b, o + 5, none⟩ = some (.bool U) ∧ w.cell? ⟨b, o + 6, none⟩ = some (.bool V) ∧ w.cell? ⟨b, o + 7, none⟩ = some (.int .i16 M) ∧
    ∀ W, Calls Try.prog 15 #[.agg #[.int .u8 F, .int .u8 A, .int .u8 B, .int .u8 C, .int .u8 O, .bool U, .bool V, .int .i16 M]] W (WordPost W) := by
  obtain ⟨F, A, B, C, O, M, U, V, ⟨h1, h2, h3, h4, h5, h6, h7, h8, h9, h10, h11, h12⟩, c0, c1, c2, c3, c4, c5, c6, c7⟩ := h
  exact ⟨F, A, B, C, O, M, U, V, c0, c1, c2, c3, c4, c5, c6, c7, fun W => word_any F A B C O M U V h1 h2 h3 h4 h5 h6 h7 h8 h9 h10 h11 h12 W⟩
theorem u32s_append (xs ys : List Int) : u32s (xs ++ ys) = u32s xs ++ u32s ys := List.map_append
set_option maxHeartbeats 6400000 in
theorem riscSteps_any (a0 : Option Addr) (len0 cap0 : Nat) (n : Int) (a2 : Option Addr) (len2 cap2 : Nat) (z2 : List Int) (fuel : Int) (w : World) (w0 : InsAt w a0 len0 cap0) (w1 : (Lit.int .u8 n).wf = true) (w2 : RowOf .u8 w a2 len2 cap2 z2) (w3 : (Lit.int .u8 fuel).wf = true) :
    Calls Try.prog 9 #[.slice a0 len0 cap0, .int .u8 n, .slice a2 len2 cap2, .int .u8 fuel] w fun e w' => e = .returned (.bool true) ∧ Below w.heap.size w w' := by
  obtain ⟨n0, n1⟩ := rng_u8 w1
  obtain ⟨f0, f1⟩ := rng_u8 w3
  have l0 := w0.le
  have l1 := w0.cap63
  obtain ⟨l2, l3⟩ := w2.bounds
  have KN := Lib.hid (fun W => known_any W)
  by_cases hbig : 40 < len0 ∨ 40 < len2
  · have hsplit : 40 < len0 ∨ (len0 ≤ 40 ∧ 40 < len2) := by omega
    clear w0 w1 w2 w3 hbig
    rcases hsplit with h | ⟨h, h'⟩
    all_goals
      go_enter Try.func9, Try.ntmps9
      go_wp2_with (go_at_call 11; refine (KN.out _).mono ?_; rintro e w1 ⟨rfl, hb1⟩)
      go_ret
      exact ⟨rfl, hb1⟩
  · have hl0 : len0 ≤ 40 := by omega
    have hl2 : len2 ≤ 40 := by omega
    have W0 := Lib.hid w0
    have ri := w2.rd
    have hi := byte_of_row w2
    have hil := w2.len
    obtain ⟨inp, hinp⟩ : ∃ c, c = z2.take len2 := ⟨_, rfl⟩
    rw [← hinp] at ri hi hil
    have ri' : Rd w 1 (.slice a2 len2 cap2) inp.length (byt inp) := by rw [hil]; exact ri
    have RI := Lib.hid ri'
    have HI := Lib.hid hi
    have hil' : inp.length ≤ 40 := by omega
    have IB := Lib.hid (fun k (hk : (Value.slice a2 len2 cap2).ownBlock = some k) (hn : 0 < inp.length) => rd_block RI.out (by decide) hn hk)
    obtain ⟨N, hN⟩ := Int.eq_ofNat_of_zero_le (show 0 ≤ n % 40 by omega)
    have hNl : N < 40 := by omega
    have eT : n.tmod 40 = N := by rw [Int.tmod_eq_emod_of_nonneg n0]; exact hN
    obtain ⟨FU, rfl⟩ := Int.eq_ofNat_of_zero_le f0
    clear w0 w1 w2 w3 hbig ri hi hinp ri' hil hN
    go_enter Try.func9, Try.ntmps9
    go_wp2_with (go_at_call 11; refine (KN.out _).mono ?_; rintro e wc ⟨rfl, hbc⟩)
    have HBC := Lib.hid hbc
    clear hbc
    go_loopw [9, 10] (fun c i wr => ∃ (k : Nat) (ys : List Int), k ≤ len0 ∧ i = .int .i64 k ∧ (∀ x ∈ ys, W32 x) ∧ ys.length = k ∧ wr.ownsRow w.heap.size 37 1 c k (u32s ys) ∧ Below w.heap.size w wr) (fun _ i _ => len0 - (intOf i).toNat)
    case atStart => exact ⟨0, [], by omega, rfl, by simp, rfl, World.ownsRow_nil _ _ _ _, HBC.out⟩
    case round =>
      obtain ⟨k, ys, hk, rfl, hys, hyl, hown, hb⟩ := hrel
      have HYS := Lib.hid hys
      have HYL := Lib.hid hyl
      have HOWN := Lib.hid hown
      have HB := Lib.hid hb
      have hsz := hb.size
      by_cases hlt : k < len0
      · obtain ⟨b, off, rfl, hbl, hcs⟩ := W0.out.cells (by omega)
        obtain ⟨F, A, B, C, O, M, U, V, c0, c1, c2, c3, c4, c5, c6, c7, hw⟩ := word_at wr ((hcs k hlt).below HB.out hbl)
        have HW := Lib.hid hw
        have k0 : (0 : Int) ≤ (k : Int) := by omega
        have k1 : (k : Int) < (len0 : Int) := by omega
        clear hys hyl hown hb hcs hw
        go_wp2_with (first
          | (go_at_call 15; refine (HW.out _).mono ?_; rintro e wx ⟨x, hx, rfl, hbx⟩; have hrow := (Fr.of_new hbx (F := fun _ => False)).owns HOWN.out (fun _ _ h => h); have HROW := Lib.hid hrow; have HX := Lib.hid hx; have HBX := Lib.hid (HB.out.trans (hbx.mono hsz)); clear hrow hx hbx)
          | (at_builtin; refine app_own _ elemU14 rfl _ _ rfl w.heap.size _ k (u32s ys) rfl (HROW.out.alloc _) _ 1 (u32s [x]) rfl (rd_new wx (u32s [x]) 37 1 1 rfl (by decide)) (one_u32s _) (by simp only [maxLen]; omega) (by omega) (by have := HBX.out.size; simp; omega) ?_; intro v' w3 hown3 hg3))
        go_roundw
        case rel =>
          refine ⟨k + 1, ys ++ [x], by omega, by go_num, ?_, by simp [HYL.out], by rw [u32s_append]; exact hown3, below_of_grown (HBX.out.alloc HBX.out.size _) (by have := HBX.out.size; simp; omega) (HROW.out.alloc _) (Nat.le_refl _) rfl hg3⟩
          intro y hy
          rcases List.mem_append.1 hy with h | h
          · exact HYS.out y h
          · rw [List.mem_singleton.1 h]; exact HX.out
        case measure => simp [intOf]; omega
      · obtain rfl : k = len0 := by omega
        have hyl' : ys.length ≤ 40 := by omega
        obtain ⟨ca, cc, rfl, _, _, _⟩ := owns_shape hown
        have hrc : Rd wr 1 (.slice ca k cc) ys.length (u32s ys) := by rw [hyl]; exact rd_of_owns hown
        have hcb : ∀ kk, (Value.slice ca k cc).ownBlock = some kk → 0 < ys.length → kk < wr.heap.size := fun kk h hn => rd_block hrc (by decide) hn h
        have HRC := Lib.hid hrc
        have HCB := Lib.hid hcb
        clear hys hyl hown hb hrc hcb
        go_wp2_with fail
        refine (pnew_n _ _ _ N (N : Int) (.inl rfl) ys inp HYS.out (by omega) HI.out (by omega) (by omega) HRC.out (RI.out.below HB.out (Nat.le_refl _))).mono ?_
        intro ea wa hA
        have HA := Lib.hid hA
        obtain ⟨q1, F1, cv1, mv1, iv1, rfl, _, _, _, hba⟩ := hA
        have HBA := Lib.hid (HB.out.trans (hba.mono HB.out.size))
        have HBA1 := Lib.hid hba
        clear hba
        go_wp2_with fail
        refine (rnew_any _ _ _ (N : Int) N ys inp HYS.out (by omega) HI.out (.inl rfl) (by omega) (HRC.out.below HBA1.out (Nat.le_refl _)) (RI.out.below HBA.out (Nat.le_refl _))).mono ?_
        intro eb wb hB
        obtain ⟨q1', q2, cv1, mv1, cv2, mv2, he1, rfl, hD, hbb⟩ := duo_new (base := w.heap.size) HB.out.size HA.out hB (fun kk h hn => .inl (HCB.out kk h hn)) (fun kk h hn => .inl (Nat.lt_of_lt_of_le (IB.out kk h hn) HB.out.size)) (fun k hk => hk) (fun k hk => hk)
        obtain rfl : q1 = q1' := by injection he1 with h; injection h with h; injection h with h; injection h
        have HD := Lib.hid hD
        have HBW := Lib.hid (HB.out.trans (hbb.mono HB.out.size))
        have hs0 : (St.new ys N inp).out.length = 0 := rfl
        clear hB hD hbb he1
        go_wp2_with fail
        go_loopw [13] (fun i wx => ∃ j : Nat, j ≤ FU ∧ i = .int .i64 j ∧ Duo true false wx w.heap.size q1 q2 (fun _ => False) cv1 mv1 cv2 mv2 ((St.new ys N inp).stepN j) ((St.new ys N inp).stepN j) ∧ Below w.heap.size w wx) (fun i _ => FU - (intOf i).toNat)
        case atStart => exact ⟨0, by omega, rfl, HD.out, HBW.out⟩
        case round =>
          obtain ⟨j, hj, rfl, hD, hb⟩ := hrel
          have hso := (stepN_out (St.new ys N inp) j).1
          have hso1 := (stepN_out (St.new ys N inp) (j + 1)).1
          rw [hs0] at hso hso1
          have HDJ := Lib.hid hD
          have HBJ := Lib.hid hb
          clear hD hb
          obtain ⟨sj, hsj⟩ : ∃ sj, sj = (St.new ys N inp).stepN j := ⟨_, rfl⟩
          have hsj1 : (St.new ys N inp).stepN (j + 1) = sj.step := by rw [St.stepN_succ, hsj]
          rw [← hsj] at hso
          rw [hsj1] at hso1
          have HDK := Lib.hid (hsj ▸ HDJ.out)
          have HSJ1 := Lib.hid hsj1
          have HSJ := Lib.hid hsj
          obtain ⟨bb, hbb⟩ : ∃ bb, bb = decide (sj.fin = 0) := ⟨_, rfl⟩
          have hP := duo_step_p HDK.out (by omega)
          rw [← hbb] at hP
          have HP := Lib.hid hP
          have HBB := Lib.hid hbb
          clear hsj hsj1 hbb hP
          by_cases hlt : j < FU
          · go_wp2_with fail
            refine HP.out.mono ?_; rintro e w5 ⟨rfl, hD5, hb5⟩
            have hR := duo_step_r hD5.swap (by omega)
            rw [← HBB.out] at hR
            have HR := Lib.hid hR
            have HB5 := Lib.hid (HBJ.out.trans hb5)
            clear hD5 hb5 hR
            go_wp2_with fail
            refine HR.out.mono ?_; rintro e w6 ⟨rfl, hD6, hb6⟩
            obtain ⟨B1, B2, G1, G2, jv1, ov1, jv2, ov2, hD7⟩ := hD6.swap
            have HD7 := Lib.hid hD7
            have HB6 := Lib.hid (HB5.out.trans hb6)
            clear hD6 hb6 hD7
            go_wp2_with fail
            refine (same_any HD7.out.m1 HD7.out.m2 (by omega)).mono ?_
            rintro e w8 ⟨rfl, hb8⟩
            have HB8 := Lib.hid hb8
            clear hb8
            go_wp2_with fail
            go_roundw
            case rel => exact ⟨j + 1, by omega, by go_num, by rw [HSJ1.out]; exact Duo.below ⟨_, _, _, _, _, _, _, _, HD7.out⟩ HB8.out, HB6.out.trans (HB8.out.mono HB6.out.size)⟩
            case measure => simp [intOf]; omega
          · obtain ⟨B1, B2, G1, G2, jv1, ov1, jv2, ov2, hD7⟩ := HDK.out
            have HD7 := Lib.hid hD7
            clear hD7 HP
            go_wp2_with fail
            refine (words_any HD7.out.m1 HD7.out.m2).mono ?_
            rintro e w9 ⟨rfl, rfl⟩
            go_wp2_with fail
            go_ret
            exact ⟨rfl, HBJ.out⟩
end Go.Proofs.Ytflinbfobadheaa
