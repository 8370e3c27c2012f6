/- The walks and the plain lemmas of the statement, joined: part 8. No condition. -/
import Derived.Test.YtgkdphnhfjjepaaJStk427
import Derived.Test.YtgkdphnhfjjepaaJStk420

/- The contract of StackRaw. -/
namespace Go.Proofs.Ytgkdphnhfjjepaa
open Go.RowKit Go.Waf
set_option maxRecDepth 100000
set_option linter.unusedVariables false
set_option linter.unusedSimpArgs false

set_option maxHeartbeats 6400000 in
theorem stackRaw_any (a0 : Option Addr) (len0 cap0 : Nat) (V NN : Nat → Int) (n base : Int) (a2 : Option Addr) (len2 cap2 : Nat) (z2 : List Int) (fuel : Int) (w : World) (w0 : PairsAt w .i64 .i32 a0 len0 cap0 V NN) (w1 : (Lit.int .i64 n).wf = true) (w1' : (Lit.int .i64 base).wf = true) (w2 : RowOf .u8 w a2 len2 cap2 z2) (w3 : (Lit.int .i64 fuel).wf = true) :
    Calls Try.prog 8 #[.slice a0 len0 cap0, .int .i64 n, .int .i64 base, .slice a2 len2 cap2, .int .i64 fuel] w fun e w' => e = .returned (.bool true) ∧ Below w.heap.size w w' := by
  obtain ⟨n0, n1⟩ := rng_i64 w1
  obtain ⟨m0, m1⟩ := rng_i64 w1'
  obtain ⟨f0, f1⟩ := rng_i64 w3
  have l0 := w0.le
  have l1 := w0.cap63
  obtain ⟨l2, l3⟩ := w2.bounds
  have KN := Lib.hid (fun W => known_any W)
  by_cases hbig : 60 < len0 ∨ 20 < len2
  · have hsplit : 60 < len0 ∨ (len0 ≤ 60 ∧ 20 < len2) := by omega
    clear w0 w1 w1' w2 w3 hbig
    rcases hsplit with h | ⟨h, h'⟩
    all_goals
      go_enter Try.func8, Try.ntmps8
      go_wp2_with (go_at_call 11; refine (KN.out _).mono ?_; rintro e w1 ⟨rfl, hb1⟩)
      go_ret
      exact ⟨rfl, hb1⟩
  · have hl0 : len0 ≤ 60 := by omega
    have hl2 : len2 ≤ 20 := by omega
    have rc := rd_of_pairs w0
    have ri := w2.rd
    have hk := code_ok_of w0
    have hi := byt_of_row w2
    have hil := w2.len
    have hcl := codeOf_length V NN len0
    obtain ⟨code, hcode⟩ : ∃ c, c = codeOf V NN len0 := ⟨_, rfl⟩
    obtain ⟨inp, hinp⟩ : ∃ c, c = z2.take len2 := ⟨_, rfl⟩
    rw [← hcode] at rc hk hcl
    rw [← hinp] at ri hi hil
    have ri' : Rd w 1 (.slice a2 len2 cap2) inp.length (byt inp) := by rw [hil]; exact ri
    have RC := Lib.hid rc
    have RI := Lib.hid ri'
    have HK := Lib.hid hk
    have HI := Lib.hid hi
    have hkl : code.length ≤ 60 := by omega
    have hil' : inp.length ≤ 20 := by omega
    have CB := Lib.hid (fun k (hk : (Value.slice a0 len0 cap0).ownBlock = some k) (hn : 0 < code.length) => rd_block RC.out (by decide) hn hk)
    have IB := Lib.hid (fun k (hk : (Value.slice a2 len2 cap2).ownBlock = some k) (hn : 0 < inp.length) => rd_block RI.out (by decide) hn hk)
    clear w0 w1 w1' w2 w3 hbig rc ri hk hi hcode hinp ri' hcl hil
    obtain ⟨n', hn'⟩ : ∃ n' : Int, (n' = n ∧ n ≤ 3000) ∨ (n' = 3000 ∧ 3000 < n) := by
      by_cases h : n ≤ 3000
      · exact ⟨n, .inl ⟨rfl, h⟩⟩
      · exact ⟨3000, .inr ⟨rfl, by omega⟩⟩
    obtain ⟨f', hf'⟩ : ∃ f' : Int, (f' = fuel ∧ fuel ≤ 2000) ∨ (f' = 2000 ∧ 2000 < fuel) := by
      by_cases h : fuel ≤ 2000
      · exact ⟨fuel, .inl ⟨rfl, h⟩⟩
      · exact ⟨2000, .inr ⟨rfl, by omega⟩⟩
    obtain ⟨N, hN, hNl⟩ : ∃ N : Nat, (n' = N ∨ (n' < 0 ∧ N = 0)) ∧ N ≤ 3000 := by
      by_cases h : n' < 0
      · exact ⟨0, .inr ⟨h, rfl⟩, by omega⟩
      · exact ⟨n'.toNat, .inl (by omega), by omega⟩
    have hNw : N = words0 n' := by unfold words0; omega
    have HN := Lib.hid hN
    have HNW := Lib.hid hNw
    have HS0 := Lib.hid (show (SSt.new code N (baseOf base N) inp).out.length ≤ 900000 from by simp [SSt.new])
    have HFU := Lib.hid (show (-9223372036854775808 ≤ f' ∧ f' ≤ 10000) from by omega)
    have HKN := Lib.hid (new_keepsN code N (baseOf base N) inp)
    have HSO := Lib.hid (show ((SSt.new code N (baseOf base N) inp).stepN f'.toNat).out.length ≤ 2000000 from by
      have := (new_keepsN code N (baseOf base N) inp f'.toNat).2.2.2
      simp [SSt.new] at this; simp only [SSt.new]; omega)
    clear hN hNw
    rcases hn' with ⟨rfl, hn1⟩ | ⟨rfl, hn1⟩ <;> rcases hf' with ⟨rfl, hf2⟩ | ⟨rfl, hf2⟩
    all_goals
      as_aux_lemma =>
      go_enter Try.func8, Try.ntmps8
      go_wp2_with (go_at_call 11; refine (KN.out _).mono ?_; rintro e wc ⟨rfl, hbc⟩)
      have HBC := Lib.hid hbc
      clear hbc
      refine (pnew_any _ _ _ N _ base HN.out code inp HK.out (by omega) HI.out (by omega) (by omega) (RC.out.below HBC.out (Nat.le_refl _)) (RI.out.below HBC.out (Nat.le_refl _))).mono ?_
      intro ea wa hA
      have HA := Lib.hid hA
      obtain ⟨q1, F1, cv1, mv1, iv1, rfl, _, _, _, hba⟩ := hA
      have hba' : Below w.heap.size w wa := HBC.out.trans (hba.mono HBC.out.size)
      have HBA := Lib.hid hba'
      clear hba hba'
      go_wp2_with fail
      refine (rnew_any _ _ _ _ base N code inp HK.out (by omega) HI.out (by omega) HNW.out (RC.out.below HBA.out (Nat.le_refl _)) (RI.out.below HBA.out (Nat.le_refl _))).mono ?_
      intro eb wb hB
      obtain ⟨q1', q2, cv1, mv1, cv2, mv2, he1, rfl, hD, hbb⟩ := duo_new (base := w.heap.size) HBC.out.size HA.out hB (fun k hk hn => .inl (Nat.lt_of_lt_of_le (CB.out k hk hn) HBC.out.size)) (fun k hk hn => .inl (Nat.lt_of_lt_of_le (IB.out k hk hn) HBC.out.size)) (fun k hk => hk) (fun k hk => hk)
      obtain rfl : q1 = q1' := by injection he1 with h; injection h with h; injection h with h; injection h
      have hbW : Below w.heap.size w wb := HBC.out.trans (hbb.mono HBC.out.size)
      have HD := Lib.hid hD
      have HBW := Lib.hid hbW
      clear hB hD hbb hbW he1
      go_wp2_with fail
      refine (duo_run_pl HD.out HKN.out _ HFU.out.1 HFU.out.2 HS0.out).mono ?_
      rintro e w5 ⟨va, vc, rfl, hva, hD5, hb5⟩
      have HVA := Lib.hid hva
      have HD5 := Lib.hid hD5
      have HB5 := Lib.hid (HBW.out.trans hb5)
      clear hva hD5 hb5
      go_wp2_with fail
      refine (duo_run_r2 HD5.out HKN.out _ HFU.out.1 HFU.out.2 HS0.out).mono ?_
      rintro e w6 ⟨vb, vd, rfl, hvb, ⟨B1, B2, G1, G2, iv1, sv1, kv1, ov1, iv2, sv2, kv2, ov2, hD6⟩, hb6, G, hG, hRG⟩
      have HVA6 := Lib.hid (rd_fr HVA.out hG hRG)
      have HVB := Lib.hid hvb
      have HD6 := Lib.hid hD6
      have HB6 := Lib.hid (HB5.out.trans hb6)
      clear hvb hD6 hb6 hG hRG
      go_wp2_with fail
      refine (hresult_any _ _ _ _ _ _ HVA6.out HVB.out).mono ?_
      rintro e w7 ⟨rfl, hb7⟩
      have HB7 := Lib.hid hb7
      clear hb7
      go_wp2_with fail
      refine (same_any (HD6.out.m1.below HB7.out) (HD6.out.m2.below HB7.out) HSO.out).mono ?_
      rintro e w8 ⟨rfl, hb8⟩
      have HB8 := Lib.hid hb8
      clear hb8
      go_wp2_with fail
      refine (words_any ((HD6.out.m1.below HB7.out).below HB8.out) ((HD6.out.m2.below HB7.out).below HB8.out)).mono ?_
      rintro e w9 ⟨rfl, rfl⟩
      go_wp2_with fail
      go_ret
      exact ⟨rfl, (HB6.out.trans (HB7.out.mono HB6.out.size)).trans (HB8.out.mono (Nat.le_trans HB6.out.size HB7.out.size))⟩
end Go.Proofs.Ytgkdphnhfjjepaa
