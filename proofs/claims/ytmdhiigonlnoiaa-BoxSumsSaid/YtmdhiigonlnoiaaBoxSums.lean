/- The walk of BoxSums. -/
import Derived.Test.YtmdhiigonlnoiaaBoxLaws
namespace Go.Proofs.Ytmdhiigonlnoiaa
open Go.RowKit Go.Waf
set_option maxRecDepth 100000
set_option linter.unusedVariables false

theorem swap_at (ys : List Int) (i : Nat) (hi : i + 1 < ys.length) : ∃ A B, ys = A ++ ys.getD i 0 :: ys.getD (i + 1) 0 :: B ∧ (ys.set i (ys.getD (i + 1) 0)).set (i + 1) (ys.getD i 0) = A ++ ys.getD (i + 1) 0 :: ys.getD i 0 :: B ∧ A.length = i := by
  have e1 : ys.getD i 0 = ys[i] := by simp [List.getD, show i < ys.length by omega]
  have e2 : ys.getD (i + 1) 0 = ys[i + 1] := by simp [List.getD, hi]
  have hs : ys = ys.take i ++ ys[i] :: ys[i + 1] :: ys.drop (i + 1 + 1) := by
    rw [List.getElem_cons_drop, List.getElem_cons_drop, List.take_append_drop]
  have hl : (ys.take i).length = i := by rw [List.length_take]; omega
  refine ⟨ys.take i, ys.drop (i + 1 + 1), by rw [e1, e2]; exact hs, ?_, hl⟩
  rw [e1, e2]
  obtain ⟨a, ha⟩ : ∃ a, a = ys[i] := ⟨_, rfl⟩
  obtain ⟨b, hb⟩ : ∃ b, b = ys[i + 1] := ⟨_, rfl⟩
  rw [← ha, ← hb] at hs ⊢
  obtain ⟨A, hA⟩ : ∃ A, A = ys.take i := ⟨_, rfl⟩
  obtain ⟨B, hB⟩ : ∃ B, B = ys.drop (i + 1 + 1) := ⟨_, rfl⟩
  rw [← hA, ← hB] at hs ⊢
  rw [← hA] at hl
  rw [hs, List.set_append_right _ _ (by omega), hl, Nat.sub_self, List.set_cons_zero, List.set_append_right _ _ (by omega), hl, Nat.add_sub_cancel_left]
  rfl

set_option maxHeartbeats 3200000 in
theorem boxSums_walk (a0 : Option Addr) (n0 c0 : Nat) (xs : List Int) (t x : Int) (ht : 0 ≤ t ∧ t ≤ 65535) (hx : 0 ≤ x ∧ x ≤ 255) (w : World)
    (hr0 : Rd w 1 (.slice a0 n0 c0) n0 (byt xs)) (hxs : Bytes xs) (hd0 : n0 ≤ c0) (hd1 : c0 ≤ 9223372036854775807) :
    Calls Try.prog 14 #[.slice a0 n0 c0, .int .u16 t, .int .u8 x] w fun e w' => e = .returned (.bool true) ∧ Below w.heap.size w w' := by
  by_cases hbig : 500 < n0
  · go_enter Try.func14, Try.ntmps14
    go_wp2_with fail
    refine (known4 _).mono ?_; rintro e w1 ⟨rfl, hb1⟩
    go_wp2_with fail
    go_ret
    exact ⟨rfl, hb1⟩
  by_cases hsm : n0 < 2
  · go_enter Try.func14, Try.ntmps14
    go_wp2_with fail
    refine (known4 _).mono ?_; rintro e w1 ⟨rfl, hb1⟩
    go_wp2_with fail
    go_ret
    exact ⟨rfl, hb1⟩
  by_cases hx0 : x = 0
  · subst hx0
    go_enter Try.func14, Try.ntmps14
    go_wp2_with fail
    refine (known4 _).mono ?_; rintro e w1 ⟨rfl, hb1⟩
    go_wp2_with fail
    go_ret
    exact ⟨rfl, hb1⟩
  have hlx : xs.length = n0 := by have := hr0.1; simpa [byt] using this
  obtain ⟨L, hL⟩ : ∃ L : Nat, (L : Int) = (n0 : Int) - 1 := ⟨n0 - 1, by omega⟩
  obtain ⟨i, hi⟩ : ∃ i : Nat, (i : Int) = t % (L : Int) := ⟨(t % (L : Int)).toNat, by have := Int.emod_nonneg t (show (L : Int) ≠ 0 by omega); omega⟩
  have hiL : i < L := by have := Int.emod_lt_of_pos t (show 0 < (L : Int) by omega); omega
  have hmod : t % ((n0 : Int) - 1) = i := by rw [← hL]; exact hi.symm
  have hL2 : L + 1 = n0 := by omega
  have hi1 : i + 1 < n0 := by omega
  clear hL hi hiL hL2
  obtain ⟨A, B, hs1, hs2, hA⟩ := swap_at xs i (by omega)
  obtain ⟨p, hp⟩ : ∃ p, p = xs.getD i 0 := ⟨_, rfl⟩
  obtain ⟨q, hq⟩ : ∃ q, q = xs.getD (i + 1) 0 := ⟨_, rfl⟩
  have hpb : 0 ≤ p ∧ p ≤ 255 := by
    have : xs.getD i 0 = xs[i] := by simp [List.getD, show i < xs.length by omega]
    rw [hp, this]; exact hxs _ (List.getElem_mem _)
  have hqb : 0 ≤ q ∧ q ≤ 255 := by
    have : xs.getD (i + 1) 0 = xs[i + 1] := by simp [List.getD, show i + 1 < xs.length by omega]
    rw [hq, this]; exact hxs _ (List.getElem_mem _)
  obtain ⟨d, hd⟩ : ∃ d, d = bits .xor .u8 p x := ⟨_, rfl⟩
  have hdb : 0 ≤ d ∧ d ≤ 255 := by rw [hd]; exact xor_byte p x
  have hdp : d ≠ p := by rw [hd]; exact xor_ne p x hpb hx hx0
  rw [← hp, ← hq] at hs1 hs2
  have hsd : xs.set i d = A ++ d :: q :: B := by
    rw [hs1, List.set_append_right _ _ (by omega), hA, Nat.sub_self, List.set_cons_zero]
  obtain ⟨S, hS⟩ : ∃ S, S = sumOf xs := ⟨_, rfl⟩
  obtain ⟨Sc, hSc⟩ : ∃ Sc, Sc = sumOf ((xs.set i q).set (i + 1) p) := ⟨_, rfl⟩
  obtain ⟨Sd, hSd⟩ : ∃ Sd, Sd = sumOf (xs.set i d) := ⟨_, rfl⟩
  have hne : (Sd != S) = true := by
    have : Sd ≠ S := by rw [hSd, hS, hsd, hs1]; exact adl_changed A (q :: B) d p hdp hdb hpb
    simp [this]
  have hsw : (Sc == S) = (q == p) := by
    have e := adl_swapped A B p q hpb hqb
    rw [← hs2, ← hs1, ← hSc, ← hS] at e
    rw [Bool.eq_iff_iff]; simp [e]
  have hbc : Bytes ((xs.set i q).set (i + 1) p) := bytes_set (bytes_set hxs _ _ hqb) _ _ hpb
  have hbd : Bytes (xs.set i d) := bytes_set hxs _ _ hdb
  have R0 := Lib.hid hr0
  have HXS := Lib.hid hxs
  have HLX := Lib.hid hlx
  have HBC := Lib.hid hbc
  have HBD := Lib.hid hbd
  have HP := Lib.hid hp
  have HQ := Lib.hid hq
  have HD := Lib.hid hd
  have HS := Lib.hid hS
  have HSc := Lib.hid hSc
  have HSd := Lib.hid hSd
  have hxq : (x == 0) = false := by simp [hx0]
  obtain ⟨hx1, hx2⟩ := hx
  obtain ⟨ht1, ht2⟩ := ht
  obtain ⟨hp1, hp2⟩ := hpb
  obtain ⟨hq1, hq2⟩ := hqb
  clear hr0 hxs hlx hbc hbd hp hq hd hS hSc hSd hs1 hs2 hsd hdp hx0
  go_enter Try.func14, Try.ntmps14
  go_wp2_with fail
  refine (known4 _).mono ?_; rintro e w1 ⟨rfl, b1⟩
  have B1 := Lib.hid b1
  have R1 := Lib.hid (R0.out.below b1 (Nat.le_refl _))
  clear b1
  go_upto_region 7 with (at_builtin; refine app_own _ elemB rfl _ _ rfl w1.heap.size (.slice none 0 0) 0 [] rfl (World.ownsRow_nil _ _ _ _) _ n0 (byt xs) rfl R1.out (one_byt _) (by simp only [maxLen]; omega) (by omega) (Nat.le_refl _) ?_; intro v2 w2 ho2 hg2; simp only [Nat.zero_add, List.nil_append] at ho2; obtain ⟨g, gc, rfl, hgb, hgs, hgc1, hgc2⟩ := owns_some ho2 (by omega))
  rw [hmod]
  have hcp := ho2.cellAt i (by omega)
  rw [byt_get _ _ (by rw [HLX.out]; omega), ← HP.out] at hcp
  have hcq := ho2.cellAt (i + 1) (by omega)
  rw [byt_get _ _ (by rw [HLX.out]; omega), ← HQ.out] at hcq
  have hf1 := ho2.frozenAt i
  have hf2 := ho2.frozenAt (i + 1)
  have hst := ((ho2.stored i (.int .u8 q)).1.stored (i + 1) (.int .u8 p)).1
  rw [byt_set, byt_set] at hst
  have HST := Lib.hid hst
  have hb2 : Below w.heap.size w w2 := below_of_grown_none B1.out B1.out.size hg2
  have HB2 := Lib.hid hb2
  have hgw := Nat.le_trans B1.out.size hgb
  have hw1 : IntKind.i64.wrap ((i : Int) + 1) = ((i + 1 : Nat) : Int) := by rw [IntWalk.i64_in _ (by omega)]; omega
  have hi2 : (i : Int) + 1 < n0 := by omega
  have hi3 : (i : Int) < n0 := by omega
  have hi4 : ((i : Int) + 1).toNat = i + 1 := by omega
  have hi5 : 0 ≤ (i : Int) + 1 := by omega
  clear ho2 hg2 hst hb2
  go_cut [] (fun wx => wx.ownsRow w1.heap.size 5 1 (.slice (some ⟨g, 0, none⟩) n0 gc) n0 (byt ((xs.set i q).set (i + 1) p)) ∧ Below w.heap.size w wx)
  case first =>
    go_region
    all_goals
      go_wp2_with fail
      go_meet
      case rel => exact ⟨HST.out.drew, ((HB2.out.setCell hgw _).setCell hgw _).drew⟩
  case rest =>
    obtain ⟨hoc, hbc⟩ := hcut
    have HOC := Lib.hid hoc
    have HBC2 := Lib.hid hbc
    have R3 := Lib.hid (R0.out.below hbc (Nat.le_refl _))
    clear hoc hbc hcp hcq hf1 hf2
    go_upto_region 9 with (at_builtin; refine app_own _ elemB rfl _ _ rfl wc.heap.size (.slice none 0 0) 0 [] rfl (World.ownsRow_nil _ _ _ _) _ n0 (byt xs) rfl R3.out (one_byt _) (by simp only [maxLen]; omega) (by omega) (Nat.le_refl _) ?_; intro v4 w4 ho4 hg4; simp only [Nat.zero_add, List.nil_append] at ho4; obtain ⟨g4, gc4, rfl, hgb4, hgs4, hgc3, hgc4⟩ := owns_some ho4 (by omega))
    have hcp := ho4.cellAt i (by omega)
    rw [byt_get _ _ (by rw [HLX.out]; omega), ← HP.out] at hcp
    have hf1 := ho4.frozenAt i
    have hst := (ho4.stored i (.int .u8 d)).1
    rw [byt_set] at hst
    have b4 : Below wc.heap.size wc w4 := below_of_grown_none (Below.refl _ _) (Nat.le_refl _) hg4
    have hgw4 := Nat.le_trans HBC2.out.size hgb4
    have b4d : Below wc.heap.size wc (w4.setCell ⟨g4, i, none⟩ (.int .u8 d)) := b4.setCell hgb4 _
    obtain ⟨W5, hW5⟩ : ∃ W5, W5 = w4.setCell ⟨g4, i, none⟩ (.int .u8 d) := ⟨_, rfl⟩
    rw [← hW5] at hst b4d
    have B5 := Lib.hid (HBC2.out.trans (b4d.mono HBC2.out.size))
    have RC5 := Lib.hid ((rd_of_owns HOC.out).below b4d (Nat.le_refl _))
    have RX5 := Lib.hid (R3.out.below b4d (Nat.le_refl _))
    have RD5 := Lib.hid (rd_of_owns hst)
    have hd' : bits .xor .u8 p x = d := HD.out.symm
    have k1 : W5.cell? ⟨g, i, none⟩ = some (.int .u8 q) := by
      obtain ⟨bb, off, e, hc⟩ := Rd_at RC5.out (by omega)
      cases e
      have h1 := hc i _ (byt_get _ i (by simp only [List.length_set]; rw [HLX.out]; omega))
      rw [Nat.zero_add] at h1
      rw [h1]
      simp [List.getD, show i < xs.length by rw [HLX.out]; omega]
    have k2 : W5.cell? ⟨g, i + 1, none⟩ = some (.int .u8 p) := by
      obtain ⟨bb, off, e, hc⟩ := Rd_at RC5.out (by omega)
      cases e
      have h1 := hc (i + 1) _ (byt_get _ (i + 1) (by simp only [List.length_set]; rw [HLX.out]; omega))
      rw [Nat.zero_add] at h1
      rw [h1]
      simp [List.getD, show i + 1 < xs.length by rw [HLX.out]; omega]
    have sC : ∀ m, Calls Try.prog 49 #[.slice (some ⟨g, 0, none⟩) n0 gc] (W5.drewN m) fun e w' => e = .returned (.int .u32 Sc) ∧ W5.drewN m = w' := fun m => by
      rw [HSc.out]; exact sum_any _ _ n0 _ (((Fr.refl (fun _ => False) W5).drewN m).rd RC5.out (fun _ _ h => h)) HBC.out
    have sX : ∀ m, Calls Try.prog 49 #[.slice a0 n0 c0] (W5.drewN m) fun e w' => e = .returned (.int .u32 S) ∧ W5.drewN m = w' := fun m => by
      rw [HS.out]; exact sum_any _ _ n0 _ (((Fr.refl (fun _ => False) W5).drewN m).rd RX5.out (fun _ _ h => h)) HXS.out
    have sD : ∀ m, Calls Try.prog 49 #[.slice (some ⟨g4, 0, none⟩) n0 gc4] (W5.drewN m) fun e w' => e = .returned (.int .u32 Sd) ∧ W5.drewN m = w' := fun m => by
      rw [HSd.out]; exact sum_any _ _ n0 _ (((Fr.refl (fun _ => False) W5).drewN m).rd RD5.out (fun _ _ h => h)) HBD.out
    have sN : ∀ m, Calls Try.prog 49 #[.slice none 0 0] (W5.drewN m) fun e w' => e = .returned (.int .u32 1) ∧ W5.drewN m = w' := fun m =>
      sum_any _ _ 0 [] (Rd.nil _ _) (by intro z hz; simp at hz)
    have SC := Lib.hid sC
    have SX := Lib.hid sX
    have SD := Lib.hid sD
    have SN := Lib.hid sN
    have HW5 := Lib.hid hW5
    clear sC sX sD sN hst b4 b4d ho4 hg4 hW5
    go_upto_region 10 with fail
    rw [← HW5.out]
    clear hcp hf1
    go_cut [6] (fun b wx => b = .bool true ∧ ∃ m, wx = W5.drewN m)
    case first =>
      go_quiet ((first | (go_at_call 49; with_reducible exact quiet_left (SC.out _)) | (go_at_call 49; with_reducible exact quiet_left (SX.out _)) | (go_at_call 49; with_reducible exact quiet_left (SD.out _)) | (go_at_call 49; with_reducible exact quiet_left (SN.out _))))
      go_wp2_with fail
      go_meet
      case rel => exact ⟨rfl, _, rfl⟩
    case rest =>
      obtain ⟨rfl, m, rfl⟩ := hcut
      go_wp2_with fail
      go_ret
      exact ⟨rfl, below_drewN B5.out m⟩
theorem boxSums_law (a0 : Option Addr) (len0 cap0 : Nat) (z0 : List Int) (a1 a2 : Int) (w : World) (w0 : RowOf .u8 w a0 len0 cap0 z0) (w1 : (Lit.int .u16 a1).wf = true) (w2 : (Lit.int .u8 a2).wf = true) :
    Calls Try.prog 14 #[.slice a0 len0 cap0, .int .u16 a1, .int .u8 a2] w fun e w' => e = .returned (.bool true) ∧ Below w.heap.size w w' :=
  boxSums_walk a0 len0 cap0 (z0.take len0) a1 a2 (rng_u16 w1) (rng_u8 w2) w w0.rd (fun x hx => rng_u8 (w0.wf x hx)) w0.bounds.1 w0.bounds.2
end Go.Proofs.Ytmdhiigonlnoiaa
