/- The walk of VarBack. -/
import Derived.Test.YtdnhlbpopohokaaVarLaws
import Derived.Deep.RegionWith
import Derived.Deep.RegionHeld3
namespace Go.Proofs.Ytdnhlbpopohokaa
open Go.RowKit Go.Waf
set_option maxRecDepth 100000
set_option linter.unusedVariables false
set_option linter.unusedSimpArgs false
attribute [local go_sem] or128 mask127_u8 mask1_u64 mask63_u8

/-- Behind an operation S may be strengthened. -/
theorem wpAnyH_monoS {P : Program} {md : Region.Mode} {ops : Array Oper} {Q : Exit → Act → World → Prop} {S S' : World → Prop} (hSS : ∀ W, S' W → S W) :
    ∀ (fuel : Nat) (listed : Array Bool) (a : Act) (w : World), wpAnyH P md ops Q S' fuel listed a w → wpAnyH P md ops Q S fuel listed a w
  | 0, _, _, _, h => h
  | fuel + 1, _, _, _, h => ⟨h.1, fun i hi => wpOp_mono (fun a' w' h' => ⟨hSS w' h'.1, wpAnyH_monoS hSS fuel _ a' w' h'.2⟩) (h.2 i hi)⟩

theorem held_more {P : Program} {md : Region.Mode} {ops : Array Oper} {Q : Exit → Act → World → Prop} {S : World → Prop} (S' : World → Prop) (hSS : ∀ W, S' W → S W)
    {fuel : Nat} {listed : Array Bool} {a : Act} {w : World} (h : S' w ∧ wpAnyH P md ops Q S' fuel listed a w) : S w ∧ wpAnyH P md ops Q S fuel listed a w :=
  ⟨hSS w h.1, wpAnyH_monoS hSS fuel listed a w h.2⟩

set_option maxHeartbeats 6000000 in
theorem varBack_walk (a0 : Option Addr) (n0 cap0 : Nat) (xs : List Int) (v : Nat) (i : Int) (a3 : Option Addr) (n3 cap3 : Nat) (ms : List Int) (w : World)
    (hv : v < 18446744073709551616) (hi0 : -9223372036854775808 ≤ i) (hi1 : i ≤ 9223372036854775807)
    (hr0 : Rd w 1 (.slice a0 n0 cap0) n0 (byt xs)) (hr3 : Rd w 1 (.slice a3 n3 cap3) n3 (byt ms)) (hbm : Bytes ms) (hc0 : n0 ≤ cap0) (hc1 : cap0 ≤ 9223372036854775807) :
    Calls Try.prog 3 #[.slice a0 n0 cap0, .int .u64 v, .int .i64 i, .slice a3 n3 cap3] w fun e w' => e = .returned (.bool true) ∧ Below w.heap.size w w' := by
  have hsmall : 0 ≤ (n0 : Int) ∧ (n0 : Int) ≤ 9223372036854775807 := by omega
  by_cases hbig : 100 < n0
  · go_enter Try.func3, Try.ntmps3
    go_wp2_with fail
    refine (known2 _).mono ?_; rintro e w1 ⟨rfl, hb1⟩
    go_wp2_with fail
    go_ret
    exact ⟨rfl, hb1⟩
  by_cases hbig3 : 100 < n3
  · go_enter Try.func3, Try.ntmps3
    go_wp2_with fail
    refine (known2 _).mono ?_; rintro e w1 ⟨rfl, hb1⟩
    go_wp2_with fail
    go_ret
    exact ⟨rfl, hb1⟩
  have R0 := Lib.hid hr0
  have R3 := Lib.hid hr3
  clear hr0 hr3
  go_enter Try.func3, Try.ntmps3
  go_wp2_with fail
  refine (known2 _).mono ?_; rintro e w1 ⟨rfl, hb1⟩
  go_wp2_with fail
  refine ownRet_mono (put_any _ _ _ xs (R0.out.below hb1 (Nat.le_refl _)) (by omega) v hv) _ ?_
  intro c w2 ho2 hb2
  have hb2' := hb1.trans (hb2.mono hb1.size)
  have hpl := putVar_len v hv
  have hpp := putVar_pos v
  obtain ⟨L, hL⟩ : ∃ L, L = (putVar v).length := ⟨_, rfl⟩
  rw [← hL] at ho2 hpl hpp
  obtain ⟨hcl, ca, cc, rfl, cc1, cc2, cc3, cc4⟩ := rd_of_owns ho2
  obtain ⟨g, off, rfl, hcells⟩ := cc4 (by omega)
  have RC := Lib.hid (rd_of_owns ho2)
  have conv2 := convB RC.out
  have HL := Lib.hid hL
  clear ho2 hcells cc4 hcl hL cc3
  unfold maxLen at cc2
  have conv2d := convB (RC.out.below (Below.drew (Below.refl w2.heap.size w2)) (Nat.le_refl _))
  have RT := Lib.hid ((R0.out.full.below hb2' (Nat.le_refl _)).below (Below.drew (Below.refl w2.heap.size w2)) (Nat.le_refl _))
  have call6 : Calls Try.prog 9 #[.slice a0 n0 n0, .int .u64 v] w2.drew fun e w3 => ∃ p, e = .returned p ∧ (convert 22 9 p).run Try.prog w3 = .ok (.string (strOfNums (xs ++ putVar v))) w3 ∧ (convert 22 9 (.slice (some ⟨g, off, none⟩) (n0 + L) cc)).run Try.prog w3 = .ok (.string (strOfNums (xs ++ putVar v))) w3 ∧ Below w2.heap.size w2 w3 := by
    refine ownRet_mono (rput_any _ _ _ xs RT.out (by omega) v hv) _ ?_
    intro p w3 ho3 hb3
    have hb3' : Below w2.heap.size w2 w3 := (Below.drew (Below.refl w2.heap.size w2)).trans hb3
    exact ⟨p, rfl, convB (rd_of_owns ho3), convB (RC.out.below hb3' (Nat.le_refl _)), hb3'⟩
  have C6 := Lib.hid call6
  clear call6
  go_upto_region 6 with fail
  go_cut [41] (fun t w3 => t = .bool false ∧ Below w2.heap.size w2 w3)
  case first =>
    go_region_with (go_at_call 9; refine C6.out.mono ?_; rintro e w3 ⟨p, rfl, cp, cq, hb3⟩)
    all_goals (go_wp2_with fail; go_meet; exact ⟨rfl, hb3⟩)
  case rest =>
  obtain ⟨rfl, hb3⟩ := hcut
  have hb3' := hb2'.trans (hb3.mono (Nat.le_trans hb1.size hb2.size))
  have hs3 := hb3'.size
  have rc3 := RC.out.below hb3 (Nat.le_refl _)
  have rcd := rc3.drop n0 (by omega)
  have hdrop : (byt (xs ++ putVar v)).drop (n0 * 1) = byt (putVar v) := by
    have hx : xs.length = n0 := by have := R0.out.1; simpa [byt] using this
    rw [byt_append, List.drop_append_of_le_length (by rw [byt_length]; omega), Nat.mul_one, ← hx, ← byt_length xs, List.drop_length]; rfl
  rw [hdrop, Nat.mul_one, show n0 + L - n0 = L by omega] at rcd
  have RCD := Lib.hid rcd
  have R3w := Lib.hid (R3.out.below hb3' (Nat.le_refl _))
  clear rc3 rcd hdrop conv2 conv2d C6
  have hne : ¬ cc = n0 := by omega
  have hms : 0 ≤ (n3 : Int) := by omega
  go_wp2_with (first | (at_builtin; refine app_own _ elemB rfl _ _ rfl w.heap.size (.slice none 0 0) 0 [] rfl (World.ownsRow_nil _ _ _ _) (.slice (some ⟨g, off + n0, none⟩) L (cc - n0)) L (byt (putVar v)) rfl RCD.out (one_byt _) (by simp only [maxLen]; omega) (by omega) hs3 ?_; intro p4 w4 ho4 hg4; simp only [Nat.zero_add, List.nil_append] at ho4) | (at_builtin; refine app_own _ elemB rfl _ _ rfl w.heap.size p4 L (byt (putVar v)) rfl ho4 (.slice a3 n3 cap3) n3 (byt ms) rfl (R3w.out.keep (fun b o u hu => hg4.cell hu (by simp [Value.ownBlock]))) (one_byt _) (by simp only [maxLen]; omega) (by omega) (Nat.le_trans hs3 hg4.size) ?_; intro p5 w5 ho5 hg5) | fail)
  have hb4 : Below w.heap.size w w4 := below_of_grown_none hb3' hs3 hg4
  have hb5 : Below w.heap.size w w5 := below_of_grown hb4 (Nat.le_trans hs3 hg4.size) ho4 (Nat.le_refl _) rfl hg5
  rw [← byt_append] at ho5
  have R5 := Lib.hid (rd_of_owns ho5)
  have e5 : readRes (readVar (putVar v ++ ms)) = (v, L, true) := by rw [readVar_putVar v hv ms, ← HL.out]; rfl
  have E5 := Lib.hid e5
  clear hg4 hg5 ho4 e5
  refine (read_any _ _ _ _ R5.out (fun x hx => (List.mem_append.1 hx).elim (putVar_bytes v x) (hbm x)) _ _ _ E5.out).mono ?_; rintro e w6 ⟨rfl, rfl⟩
  go_wp2_with fail
  refine ownRet_mono (putInt_any _ _ _ [] rd_nil (by omega) i hi0 hi1) _ ?_
  intro d w7 ho7 hb7
  obtain ⟨M, hM⟩ : ∃ M, M = (putVar (zig i)).length := ⟨_, rfl⟩
  have hml := putVar_len (zig i) (zig_lt i hi0 hi1)
  have hmp := putVar_pos (zig i)
  rw [List.nil_append, Nat.zero_add, ← hM] at ho7
  rw [← hM] at hml hmp
  have hb7' : Below w.heap.size w w7 := hb5.trans (hb7.mono hb5.size)
  have hs7 := hb7'.size
  have R7 := Lib.hid (rd_of_owns ho7)
  have R37 := Lib.hid (R3.out.below hb7' (Nat.le_refl _))
  obtain ⟨da, dc, rfl, dc1, dc2, _⟩ := owns_shape ho7
  unfold maxLen at dc2
  have HM := Lib.hid hM
  clear ho7 hM
  have el : IntKind.i64.wrap ((n0 : Int) + L - n0) = L := by rw [show (n0 : Int) + L - n0 = L by omega]; exact IntWalk.i64_in _ (by omega)
  have el2 : IntKind.i64.wrap (((n0 + L : Nat) : Int) - n0) = L := by rw [show ((n0 + L : Nat) : Int) - n0 = L by omega]; exact IntWalk.i64_in _ (by omega)
  have B7 := Lib.hid hb7'
  go_upto_region 10 with fail
  go_cut [14, 15, 16] from 17 to 64 (fun a b c wx => a = .int .i64 i ∧ b = .int .i64 (M : Int) ∧ c = .bool true ∧ Rd wx 1 (.slice da M dc) M (byt (putVar (zig i))) ∧ Below w.heap.size w wx)
  case first =>
    go_wp2_with (first | (at_builtin; refine app_own _ elemB rfl _ _ rfl w7.heap.size (.slice none 0 0) 0 [] rfl (World.ownsRow_nil _ _ _ _) (.slice da M dc) M (byt (putVar (zig i))) rfl R7.out (one_byt _) (by simp only [maxLen]; omega) (by omega) (Nat.le_refl _) ?_; intro p8 w8 ho8 hg8; simp only [Nat.zero_add, List.nil_append] at ho8) | (at_builtin; refine app_own _ elemB rfl _ _ rfl w7.heap.size p8 M (byt (putVar (zig i))) rfl ho8 (.slice a3 n3 cap3) n3 (byt ms) rfl (R37.out.keep (fun b o u hu => hg8.cell hu (by simp [Value.ownBlock]))) (one_byt _) (by simp only [maxLen]; omega) (by omega) hg8.size ?_; intro p9 w9 ho9 hg9) | fail)
    have hb8 : Below w7.heap.size w7 w8 := below_of_grown_none (Below.refl _ _) (Nat.le_refl _) hg8
    have hb97 : Below w7.heap.size w7 w9 := below_of_grown hb8 hg8.size ho8 (Nat.le_refl _) rfl hg9
    have hb9 : Below w.heap.size w w9 := hb7'.trans (hb97.mono hs7)
    rw [← byt_append] at ho9
    have R9 := Lib.hid (rd_of_owns ho9)
    have e9 : readRes (readVar (putVar (zig i) ++ ms)) = (zig i, M, true) := by rw [readVar_putVar _ (zig_lt i hi0 hi1) ms, ← HM.out]; rfl
    have E9 := Lib.hid e9
    have RD9 : Rd w9 1 (.slice da M dc) M (byt (putVar (zig i))) := R7.out.below hb97 (Nat.le_refl _)
    clear hg8 hg9 ho8 e9
    refine (readInt_any _ _ _ _ R9.out (fun x hx => (List.mem_append.1 hx).elim (putVar_bytes _ x) (hbm x)) _ _ _ E9.out).mono ?_; rintro e w10 ⟨rfl, rfl⟩
    rw [zag_zig]
    have RD := Lib.hid RD9
    have HB9 := Lib.hid hb9
    clear RD9 hb8 hb97 hb9
    go_wp2_with fail
    go_meet
    case rel => exact ⟨rfl, rfl, rfl, RD.out, HB9.out⟩
  case rest =>
    obtain ⟨rfl, rfl, rfl, hrd, hbw⟩ := hcut
    have RD := Lib.hid hrd
    have HBW := Lib.hid hbw
    have cd := convB (RD.out.below (Below.drew (Below.refl wc.heap.size wc)) (Nat.le_refl _))
    have call11 : Calls Try.prog 9 #[.slice none 0 0, .int .u64 (zig i)] wc.drew fun e w3 => ∃ pa pn pc, e = .returned (.slice pa pn pc) ∧ (convert 22 9 (.slice pa pn pc)).run Try.prog w3 = .ok (.string (strOfNums (putVar (zig i)))) w3 ∧ (convert 22 9 (.slice da M dc)).run Try.prog w3 = .ok (.string (strOfNums (putVar (zig i)))) w3 ∧ Below wc.heap.size wc w3 := by
      refine ownRet_mono (rput_any _ none 0 [] rd_nil (by omega) _ (zig_lt i hi0 hi1)) _ ?_
      intro p w3 ho3 hb3
      have hb3' : Below wc.heap.size wc w3 := (Below.drew (Below.refl wc.heap.size wc)).trans hb3
      obtain ⟨pa, pc, rfl, _, _, _⟩ := owns_shape ho3
      exact ⟨pa, _, pc, rfl, convB (rd_of_owns (by simpa using ho3)), convB (RD.out.below hb3' (Nat.le_refl _)), hb3'⟩
    have C11 := Lib.hid call11
    have Z11 := Lib.hid (fun W => zig_any i hi0 hi1 W)
    clear call11 hrd hbw hb7' hb7 hb5 hb4 hb3' hb3 hb2' hb2 hb1
    clear RCD R3w E5 R5 R7 R37 HM HL RC RT R0 R3 B7
    go_upto_region 11 with fail
    go_cut [8] from 65 to 102 (fun t w3 => t = .bool true ∧ Below w.heap.size w w3)
    case first =>
      have cd0 := convB RD.out
      refine wp_region_held_drew (S := fun W => (convert 22 9 (.slice da M dc)).run Try.prog W = .ok (.string (strOfNums (putVar (zig i)))) W) (by kernel_rfl) cd (fun hHeld => ?_)
      (refine wpAnyH_take (i := 0) (oi := ?_) (v := ?_) ?_ (by kernel_rfl) (by kernel_rfl) (by kernel_rfl) ?_ (Or.inl ⟨?_, ?_⟩) hHeld ?_; rotate_left 2; (focus (simp only [List.getElem?_toArray, List.getElem?_cons_succ, List.getElem?_cons_zero] <;> rfl)); (focus exact (fun _ _ _ h => h)); (focus rfl); (focus (intro w hSw; (try dsimp only at hSw); go_simp; try (with_reducible rfl))))
      (try simp only [Act.put, List.setIfInBounds_toArray, List.set_cons_zero, List.set_cons_succ])
      (refine wpAnyH_take (i := 1) (oi := ?_) (v := ?_) ?_ (by kernel_rfl) (by kernel_rfl) (by kernel_rfl) ?_ (Or.inl ⟨?_, ?_⟩) hHeld ?_; rotate_left 2; (focus (simp only [List.getElem?_toArray, List.getElem?_cons_succ, List.getElem?_cons_zero] <;> rfl)); (focus exact (fun _ _ _ h => h)); (focus rfl); (focus (intro w hSw; (try dsimp only at hSw); go_simp; try (with_reducible rfl))))
      (try simp only [Act.put, List.setIfInBounds_toArray, List.set_cons_zero, List.set_cons_succ])
      (refine wpAnyH_take (i := 2) (oi := ?_) (v := ?_) ?_ (by kernel_rfl) (by kernel_rfl) (by kernel_rfl) ?_ (Or.inl ⟨?_, ?_⟩) hHeld ?_; rotate_left 2; (focus (simp only [List.getElem?_toArray, List.getElem?_cons_succ, List.getElem?_cons_zero] <;> rfl)); (focus exact (fun _ _ _ h => h)); (focus rfl); (focus (intro w hSw; (try dsimp only at hSw); go_simp; try (with_reducible rfl))))
      (try simp only [Act.put, List.setIfInBounds_toArray, List.set_cons_zero, List.set_cons_succ])
      (refine wpAnyH_take (i := 3) (oi := ?_) (v := ?_) ?_ (by kernel_rfl) (by kernel_rfl) (by kernel_rfl) ?_ (Or.inl ⟨?_, ?_⟩) hHeld ?_; rotate_left 2; (focus (simp only [List.getElem?_toArray, List.getElem?_cons_succ, List.getElem?_cons_zero] <;> rfl)); (focus exact (fun _ _ _ h => h)); (focus rfl); (focus (intro w hSw; (try dsimp only at hSw); go_simp; try (with_reducible rfl))))
      (try simp only [Act.put, List.setIfInBounds_toArray, List.set_cons_zero, List.set_cons_succ])
      (refine wpAnyH_take (i := 4) (oi := ?_) (v := ?_) ?_ (by kernel_rfl) (by kernel_rfl) (by kernel_rfl) ?_ (Or.inl ⟨?_, ?_⟩) hHeld ?_; rotate_left 2; (focus (simp only [List.getElem?_toArray, List.getElem?_cons_succ, List.getElem?_cons_zero] <;> rfl)); (focus exact (fun _ _ _ h => h)); (focus rfl); (focus (intro w hSw; (try dsimp only at hSw); go_simp; try (with_reducible rfl))))
      (try simp only [Act.put, List.setIfInBounds_toArray, List.set_cons_zero, List.set_cons_succ])
      (refine wpAnyH_take (i := 5) (oi := ?_) (v := ?_) ?_ (by kernel_rfl) (by kernel_rfl) (by kernel_rfl) ?_ (Or.inl ⟨?_, ?_⟩) hHeld ?_; rotate_left 2; (focus (simp only [List.getElem?_toArray, List.getElem?_cons_succ, List.getElem?_cons_zero] <;> rfl)); (focus exact (fun _ _ _ h => h)); (focus rfl); (focus (intro w hSw; (try dsimp only at hSw); go_simp; try (with_reducible rfl))))
      (try simp only [Act.put, List.setIfInBounds_toArray, List.set_cons_zero, List.set_cons_succ])
      (refine wpAnyH_take (i := 6) (oi := ?_) (v := ?_) ?_ (by kernel_rfl) (by kernel_rfl) (by kernel_rfl) ?_ (Or.inl ⟨?_, ?_⟩) hHeld ?_; rotate_left 2; (focus (simp only [List.getElem?_toArray, List.getElem?_cons_succ, List.getElem?_cons_zero] <;> rfl)); (focus exact (fun _ _ _ h => h)); (focus rfl); (focus (intro w hSw; (try dsimp only at hSw); go_simp; try (with_reducible rfl))))
      (try simp only [Act.put, List.setIfInBounds_toArray, List.set_cons_zero, List.set_cons_succ])
      (refine wpAnyH_take (i := 7) (oi := ?_) (v := ?_) ?_ (by kernel_rfl) (by kernel_rfl) (by kernel_rfl) ?_ (Or.inl ⟨?_, ?_⟩) hHeld ?_; rotate_left 2; (focus (simp only [List.getElem?_toArray, List.getElem?_cons_succ, List.getElem?_cons_zero] <;> rfl)); (focus exact (fun _ _ _ h => h)); (focus rfl); (focus (intro w hSw; (try dsimp only at hSw); go_simp; try (with_reducible rfl))))
      (try simp only [Act.put, List.setIfInBounds_toArray, List.set_cons_zero, List.set_cons_succ])
      (refine wpAnyH_take (i := 8) (oi := ?_) (v := ?_) ?_ (by kernel_rfl) (by kernel_rfl) (by kernel_rfl) ?_ (Or.inl ⟨?_, ?_⟩) hHeld ?_; rotate_left 2; (focus (simp only [List.getElem?_toArray, List.getElem?_cons_succ, List.getElem?_cons_zero] <;> rfl)); (focus exact (fun _ _ _ h => h)); (focus rfl); (focus (intro w hSw; (try dsimp only at hSw); go_simp; try (with_reducible rfl))))
      (try simp only [Act.put, List.setIfInBounds_toArray, List.set_cons_zero, List.set_cons_succ])
      (refine wpAnyH_take (i := 9) (oi := ?_) (v := ?_) ?_ (by kernel_rfl) (by kernel_rfl) (by kernel_rfl) ?_ (Or.inl ⟨?_, ?_⟩) hHeld ?_; rotate_left 2; (focus (simp only [List.getElem?_toArray, List.getElem?_cons_succ, List.getElem?_cons_zero] <;> rfl)); (focus exact (fun _ _ _ h => h)); (focus rfl); (focus (intro w hSw; (try dsimp only at hSw); go_simp; try (with_reducible rfl))))
      (try simp only [Act.put, List.setIfInBounds_toArray, List.set_cons_zero, List.set_cons_succ])
      (refine wpAnyH_take (i := 10) (oi := ?_) (v := ?_) ?_ (by kernel_rfl) (by kernel_rfl) (by kernel_rfl) ?_ (Or.inl ⟨?_, ?_⟩) hHeld ?_; rotate_left 2; (focus (simp only [List.getElem?_toArray, List.getElem?_cons_succ, List.getElem?_cons_zero] <;> rfl)); (focus exact (fun _ _ _ h => h)); (focus rfl); (focus (intro w hSw; (try dsimp only at hSw); go_simp; try (with_reducible rfl))))
      (try simp only [Act.put, List.setIfInBounds_toArray, List.set_cons_zero, List.set_cons_succ])
      (refine wpAnyH_take (i := 11) (oi := ?_) (v := ?_) ?_ (by kernel_rfl) (by kernel_rfl) (by kernel_rfl) ?_ (Or.inl ⟨?_, ?_⟩) hHeld ?_; rotate_left 2; (focus (simp only [List.getElem?_toArray, List.getElem?_cons_succ, List.getElem?_cons_zero] <;> rfl)); (focus exact (fun _ _ _ h => h)); (focus rfl); (focus (intro w hSw; (try dsimp only at hSw); go_simp; try (with_reducible rfl))))
      (try simp only [Act.put, List.setIfInBounds_toArray, List.set_cons_zero, List.set_cons_succ])
      (refine wpAnyH_take (i := 12) (oi := ?_) (v := ?_) ?_ (by kernel_rfl) (by kernel_rfl) (by kernel_rfl) ?_ (Or.inl ⟨?_, ?_⟩) hHeld ?_; rotate_left 2; (focus (simp only [List.getElem?_toArray, List.getElem?_cons_succ, List.getElem?_cons_zero] <;> rfl)); (focus exact (fun _ _ _ h => h)); (focus rfl); (focus (intro w hSw; (try dsimp only at hSw); go_simp; try (with_reducible rfl))))
      (try simp only [Act.put, List.setIfInBounds_toArray, List.set_cons_zero, List.set_cons_succ])
      (refine wpAnyH_take (i := 13) (oi := ?_) (v := ?_) ?_ (by kernel_rfl) (by kernel_rfl) (by kernel_rfl) ?_ (Or.inl ⟨?_, ?_⟩) hHeld ?_; rotate_left 2; (focus (simp only [List.getElem?_toArray, List.getElem?_cons_succ, List.getElem?_cons_zero] <;> rfl)); (focus exact (fun _ _ _ h => h)); (focus rfl); (focus (intro w hSw; (try dsimp only at hSw); go_simp; try (with_reducible rfl))))
      (try simp only [Act.put, List.setIfInBounds_toArray, List.set_cons_zero, List.set_cons_succ])
      (refine wpAnyH_take (i := 14) (oi := ?_) (v := ?_) ?_ (by kernel_rfl) (by kernel_rfl) (by kernel_rfl) ?_ (Or.inl ⟨?_, ?_⟩) hHeld ?_; rotate_left 2; (focus (simp only [List.getElem?_toArray, List.getElem?_cons_succ, List.getElem?_cons_zero] <;> rfl)); (focus exact (fun _ _ _ h => h)); (focus rfl); (focus (intro w hSw; (try dsimp only at hSw); go_simp; try (with_reducible rfl))))
      (try simp only [Act.put, List.setIfInBounds_toArray, List.set_cons_zero, List.set_cons_succ])
      (refine wpAnyH_take (i := 15) (oi := ?_) (v := ?_) ?_ (by kernel_rfl) (by kernel_rfl) (by kernel_rfl) ?_ (Or.inl ⟨?_, ?_⟩) hHeld ?_; rotate_left 2; (focus (simp only [List.getElem?_toArray, List.getElem?_cons_succ, List.getElem?_cons_zero] <;> rfl)); (focus exact (fun _ _ _ h => h)); (focus rfl); (focus (intro w hSw; (try dsimp only at hSw); go_simp; try (with_reducible rfl))))
      (try simp only [Act.put, List.setIfInBounds_toArray, List.set_cons_zero, List.set_cons_succ])
      (refine wpAnyH_take (i := 16) (oi := ?_) (v := ?_) ?_ (by kernel_rfl) (by kernel_rfl) (by kernel_rfl) ?_ (Or.inl ⟨?_, ?_⟩) hHeld ?_; rotate_left 2; (focus (simp only [List.getElem?_toArray, List.getElem?_cons_succ, List.getElem?_cons_zero] <;> rfl)); (focus exact (fun _ _ _ h => h)); (focus rfl); (focus (intro w hSw; (try dsimp only at hSw); go_simp; try (with_reducible rfl))))
      (try simp only [Act.put, List.setIfInBounds_toArray, List.set_cons_zero, List.set_cons_succ])
      (refine wpAnyH_take (i := 17) (oi := ?_) (v := ?_) ?_ (by kernel_rfl) (by kernel_rfl) (by kernel_rfl) ?_ (Or.inl ⟨?_, ?_⟩) hHeld ?_; rotate_left 2; (focus (simp only [List.getElem?_toArray, List.getElem?_cons_succ, List.getElem?_cons_zero] <;> rfl)); (focus exact (fun _ _ _ h => h)); (focus rfl); (focus (intro w hSw; (try dsimp only at hSw); go_simp; try (with_reducible rfl))))
      (try simp only [Act.put, List.setIfInBounds_toArray, List.set_cons_zero, List.set_cons_succ])
      (refine wpAnyH_take (i := 18) (oi := ?_) (v := ?_) ?_ (by kernel_rfl) (by kernel_rfl) (by kernel_rfl) ?_ (Or.inl ⟨?_, ?_⟩) hHeld ?_; rotate_left 2; (focus (simp only [List.getElem?_toArray, List.getElem?_cons_succ, List.getElem?_cons_zero] <;> rfl)); (focus exact (fun _ _ _ h => h)); (focus rfl); (focus (intro w hSw; (try dsimp only at hSw); go_simp; try (with_reducible rfl))))
      (try simp only [Act.put, List.setIfInBounds_toArray, List.set_cons_zero, List.set_cons_succ])
      refine wpAnyH_ready (rs := [19]) (by kernel_rfl) (by simp) ?_
      (refine AllReadyH.cons (o := ?_) ?_ (fun K hK => ?_) AllReadyH.nil; rotate_left; (focus (simp only [List.getElem?_toArray, List.getElem?_cons_succ, List.getElem?_cons_zero] <;> rfl)))
      go_simp
      go_at_call 13
      with_reducible refine (Z11.out _).mono ?_
      rintro e w3 ⟨rfl, rfl⟩
      try go_wp2_with fail
      refine hK.out _ _ cd (fun hHeld => ?_)
      clear hK K
      (try simp only [Act.put, List.setIfInBounds_toArray, List.set_cons_zero, List.set_cons_succ])
      refine wpAnyH_ready (rs := [20]) (by kernel_rfl) (by simp) ?_
      (refine AllReadyH.cons (o := ?_) ?_ (fun K hK => ?_) AllReadyH.nil; rotate_left; (focus (simp only [List.getElem?_toArray, List.getElem?_cons_succ, List.getElem?_cons_zero] <;> rfl)))
      go_simp
      go_at_call 9
      with_reducible refine C11.out.mono ?_
      rintro e w3 ⟨pa, pn, pc, rfl, cp, cq, hbb⟩
      try go_wp2_with fail
      refine hK.out _ _ cq (fun _ => ?_)
      clear hK K
      refine wpAnyH_monoS (S' := fun W => (convert 22 9 (.slice da M dc)).run Try.prog W = .ok (.string (strOfNums (putVar (zig i)))) W ∧ (convert 22 9 (.slice pa pn pc)).run Try.prog W = .ok (.string (strOfNums (putVar (zig i)))) W) (fun _ h => h.1) _ _ _ _ ?_
      have hHeld : (fun W => (convert 22 9 (.slice da M dc)).run Try.prog W = .ok (.string (strOfNums (putVar (zig i)))) W ∧ (convert 22 9 (.slice pa pn pc)).run Try.prog W = .ok (.string (strOfNums (putVar (zig i)))) W) w3 := ⟨cq, cp⟩
      (try simp only [Act.put, List.setIfInBounds_toArray, List.set_cons_zero, List.set_cons_succ])
      (refine wpAnyH_take (i := 21) (oi := ?_) (v := ?_) ?_ (by kernel_rfl) (by kernel_rfl) (by kernel_rfl) ?_ (Or.inl ⟨?_, ?_⟩) hHeld ?_; rotate_left 2; (focus (simp only [List.getElem?_toArray, List.getElem?_cons_succ, List.getElem?_cons_zero] <;> rfl)); (focus exact (fun _ _ _ h => h)); (focus rfl); (focus (intro w hSw; (try dsimp only at hSw); obtain ⟨hS1, hS2⟩ := hSw; go_simp; try (with_reducible rfl))))
      (try simp only [Act.put, List.setIfInBounds_toArray, List.set_cons_zero, List.set_cons_succ])
      (refine wpAnyH_take (i := 22) (oi := ?_) (v := ?_) ?_ (by kernel_rfl) (by kernel_rfl) (by kernel_rfl) ?_ (Or.inl ⟨?_, ?_⟩) hHeld ?_; rotate_left 2; (focus (simp only [List.getElem?_toArray, List.getElem?_cons_succ, List.getElem?_cons_zero] <;> rfl)); (focus exact (fun _ _ _ h => h)); (focus rfl); (focus (intro w hSw; (try dsimp only at hSw); obtain ⟨hS1, hS2⟩ := hSw; go_simp; try (with_reducible rfl))))
      (try simp only [Act.put, List.setIfInBounds_toArray, List.set_cons_zero, List.set_cons_succ])
      (refine wpAnyH_take (i := 23) (oi := ?_) (v := ?_) ?_ (by kernel_rfl) (by kernel_rfl) (by kernel_rfl) ?_ (Or.inl ⟨?_, ?_⟩) hHeld ?_; rotate_left 2; (focus (simp only [List.getElem?_toArray, List.getElem?_cons_succ, List.getElem?_cons_zero] <;> rfl)); (focus exact (fun _ _ _ h => h)); (focus rfl); (focus (intro w hSw; (try dsimp only at hSw); obtain ⟨hS1, hS2⟩ := hSw; go_simp; try (with_reducible rfl))))
      (try simp only [Act.put, List.setIfInBounds_toArray, List.set_cons_zero, List.set_cons_succ])
      (refine wpAnyH_take (i := 24) (oi := ?_) (v := ?_) ?_ (by kernel_rfl) (by kernel_rfl) (by kernel_rfl) ?_ (Or.inl ⟨?_, ?_⟩) hHeld ?_; rotate_left 2; (focus (simp only [List.getElem?_toArray, List.getElem?_cons_succ, List.getElem?_cons_zero] <;> rfl)); (focus exact (fun _ _ _ h => h)); (focus rfl); (focus (intro w hSw; (try dsimp only at hSw); obtain ⟨hS1, hS2⟩ := hSw; go_simp; try (with_reducible rfl))))
      (try simp only [Act.put, List.setIfInBounds_toArray, List.set_cons_zero, List.set_cons_succ])
      (refine wpAnyH_take (i := 25) (oi := ?_) (v := ?_) ?_ (by kernel_rfl) (by kernel_rfl) (by kernel_rfl) ?_ (Or.inl ⟨?_, ?_⟩) hHeld ?_; rotate_left 2; (focus (simp only [List.getElem?_toArray, List.getElem?_cons_succ, List.getElem?_cons_zero] <;> rfl)); (focus exact (fun _ _ _ h => h)); (focus rfl); (focus (intro w hSw; (try dsimp only at hSw); obtain ⟨hS1, hS2⟩ := hSw; go_simp; try (with_reducible rfl))))
      (try simp only [Act.put, List.setIfInBounds_toArray, List.set_cons_zero, List.set_cons_succ])
      (refine wpAnyH_take (i := 26) (oi := ?_) (v := ?_) ?_ (by kernel_rfl) (by kernel_rfl) (by kernel_rfl) ?_ (Or.inl ⟨?_, ?_⟩) hHeld ?_; rotate_left 2; (focus (simp only [List.getElem?_toArray, List.getElem?_cons_succ, List.getElem?_cons_zero] <;> rfl)); (focus exact (fun _ _ _ h => h)); (focus rfl); (focus (intro w hSw; (try dsimp only at hSw); obtain ⟨hS1, hS2⟩ := hSw; go_simp; try (with_reducible rfl))))
      (try simp only [Act.put, List.setIfInBounds_toArray, List.set_cons_zero, List.set_cons_succ])
      (refine wpAnyH_take (i := 27) (oi := ?_) (v := ?_) ?_ (by kernel_rfl) (by kernel_rfl) (by kernel_rfl) ?_ (Or.inl ⟨?_, ?_⟩) hHeld ?_; rotate_left 2; (focus (simp only [List.getElem?_toArray, List.getElem?_cons_succ, List.getElem?_cons_zero] <;> rfl)); (focus exact (fun _ _ _ h => h)); (focus rfl); (focus (intro w hSw; (try dsimp only at hSw); obtain ⟨hS1, hS2⟩ := hSw; go_simp; try (with_reducible rfl))))
      (try simp only [Act.put, List.setIfInBounds_toArray, List.set_cons_zero, List.set_cons_succ])
      (refine wpAnyH_take (i := 28) (oi := ?_) (v := ?_) ?_ (by kernel_rfl) (by kernel_rfl) (by kernel_rfl) ?_ (Or.inl ⟨?_, ?_⟩) hHeld ?_; rotate_left 2; (focus (simp only [List.getElem?_toArray, List.getElem?_cons_succ, List.getElem?_cons_zero] <;> rfl)); (focus exact (fun _ _ _ h => h)); (focus rfl); (focus (intro w hSw; (try dsimp only at hSw); obtain ⟨hS1, hS2⟩ := hSw; go_simp; try (with_reducible rfl))))
      (try simp only [Act.put, List.setIfInBounds_toArray, List.set_cons_zero, List.set_cons_succ])
      (refine wpAnyH_take (i := 29) (oi := ?_) (v := ?_) ?_ (by kernel_rfl) (by kernel_rfl) (by kernel_rfl) ?_ (Or.inl ⟨?_, ?_⟩) hHeld ?_; rotate_left 2; (focus (simp only [List.getElem?_toArray, List.getElem?_cons_succ, List.getElem?_cons_zero] <;> rfl)); (focus exact (fun _ _ _ h => h)); (focus rfl); (focus (intro w hSw; (try dsimp only at hSw); obtain ⟨hS1, hS2⟩ := hSw; go_simp; try (with_reducible rfl))))
      (try simp only [Act.put, List.setIfInBounds_toArray, List.set_cons_zero, List.set_cons_succ])
      (refine wpAnyH_take (i := 30) (oi := ?_) (v := ?_) ?_ (by kernel_rfl) (by kernel_rfl) (by kernel_rfl) ?_ (Or.inl ⟨?_, ?_⟩) hHeld ?_; rotate_left 2; (focus (simp only [List.getElem?_toArray, List.getElem?_cons_succ, List.getElem?_cons_zero] <;> rfl)); (focus exact (fun _ _ _ h => h)); (focus rfl); (focus (intro w hSw; (try dsimp only at hSw); obtain ⟨hS1, hS2⟩ := hSw; go_simp; try (with_reducible rfl))))
      (try simp only [Act.put, List.setIfInBounds_toArray, List.set_cons_zero, List.set_cons_succ])
      (refine wpAnyH_take (i := 31) (oi := ?_) (v := ?_) ?_ (by kernel_rfl) (by kernel_rfl) (by kernel_rfl) ?_ (Or.inl ⟨?_, ?_⟩) hHeld ?_; rotate_left 2; (focus (simp only [List.getElem?_toArray, List.getElem?_cons_succ, List.getElem?_cons_zero] <;> rfl)); (focus exact (fun _ _ _ h => h)); (focus rfl); (focus (intro w hSw; (try dsimp only at hSw); obtain ⟨hS1, hS2⟩ := hSw; go_simp; try (with_reducible rfl))))
      (try simp only [Act.put, List.setIfInBounds_toArray, List.set_cons_zero, List.set_cons_succ])
      (refine wpAnyH_take (i := 32) (oi := ?_) (v := ?_) ?_ (by kernel_rfl) (by kernel_rfl) (by kernel_rfl) ?_ (Or.inl ⟨?_, ?_⟩) hHeld ?_; rotate_left 2; (focus (simp only [List.getElem?_toArray, List.getElem?_cons_succ, List.getElem?_cons_zero] <;> rfl)); (focus exact (fun _ _ _ h => h)); (focus rfl); (focus (intro w hSw; (try dsimp only at hSw); obtain ⟨hS1, hS2⟩ := hSw; go_simp; try (with_reducible rfl))))
      (try simp only [Act.put, List.setIfInBounds_toArray, List.set_cons_zero, List.set_cons_succ])
      (refine wpAnyH_take (i := 33) (oi := ?_) (v := ?_) ?_ (by kernel_rfl) (by kernel_rfl) (by kernel_rfl) ?_ (Or.inl ⟨?_, ?_⟩) hHeld ?_; rotate_left 2; (focus (simp only [List.getElem?_toArray, List.getElem?_cons_succ, List.getElem?_cons_zero] <;> rfl)); (focus exact (fun _ _ _ h => h)); (focus rfl); (focus (intro w hSw; (try dsimp only at hSw); obtain ⟨hS1, hS2⟩ := hSw; go_simp; try (with_reducible rfl))))
      (try simp only [Act.put, List.setIfInBounds_toArray, List.set_cons_zero, List.set_cons_succ])
      (refine wpAnyH_take (i := 34) (oi := ?_) (v := ?_) ?_ (by kernel_rfl) (by kernel_rfl) (by kernel_rfl) ?_ (Or.inl ⟨?_, ?_⟩) hHeld ?_; rotate_left 2; (focus (simp only [List.getElem?_toArray, List.getElem?_cons_succ, List.getElem?_cons_zero] <;> rfl)); (focus exact (fun _ _ _ h => h)); (focus rfl); (focus (intro w hSw; (try dsimp only at hSw); obtain ⟨hS1, hS2⟩ := hSw; go_simp; try (with_reducible rfl))))
      (try simp only [Act.put, List.setIfInBounds_toArray, List.set_cons_zero, List.set_cons_succ])
      (refine wpAnyH_take (i := 35) (oi := ?_) (v := ?_) ?_ (by kernel_rfl) (by kernel_rfl) (by kernel_rfl) ?_ (Or.inl ⟨?_, ?_⟩) hHeld ?_; rotate_left 2; (focus (simp only [List.getElem?_toArray, List.getElem?_cons_succ, List.getElem?_cons_zero] <;> rfl)); (focus exact (fun _ _ _ h => h)); (focus rfl); (focus (intro w hSw; (try dsimp only at hSw); obtain ⟨hS1, hS2⟩ := hSw; go_simp; try (with_reducible rfl))))
      (try simp only [Act.put, List.setIfInBounds_toArray, List.set_cons_zero, List.set_cons_succ])
      (refine wpAnyH_take (i := 36) (oi := ?_) (v := ?_) ?_ (by kernel_rfl) (by kernel_rfl) (by kernel_rfl) ?_ (Or.inl ⟨?_, ?_⟩) hHeld ?_; rotate_left 2; (focus (simp only [List.getElem?_toArray, List.getElem?_cons_succ, List.getElem?_cons_zero] <;> rfl)); (focus exact (fun _ _ _ h => h)); (focus rfl); (focus (intro w hSw; (try dsimp only at hSw); obtain ⟨hS1, hS2⟩ := hSw; go_simp; try (with_reducible rfl))))
      (try simp only [Act.put, List.setIfInBounds_toArray, List.set_cons_zero, List.set_cons_succ])
      (refine wpAnyH_take (i := 37) (oi := ?_) (v := ?_) ?_ (by kernel_rfl) (by kernel_rfl) (by kernel_rfl) ?_ (Or.inl ⟨?_, ?_⟩) hHeld ?_; rotate_left 2; (focus (simp only [List.getElem?_toArray, List.getElem?_cons_succ, List.getElem?_cons_zero] <;> rfl)); (focus exact (fun _ _ _ h => h)); (focus rfl); (focus (intro w hSw; (try dsimp only at hSw); obtain ⟨hS1, hS2⟩ := hSw; go_simp; try (with_reducible rfl))))
      (try simp only [Act.put, List.setIfInBounds_toArray, List.set_cons_zero, List.set_cons_succ])
      (refine wpAnyH_take (i := 38) (oi := ?_) (v := ?_) ?_ (by kernel_rfl) (by kernel_rfl) (by kernel_rfl) ?_ (Or.inl ⟨?_, ?_⟩) hHeld ?_; rotate_left 2; (focus (simp only [List.getElem?_toArray, List.getElem?_cons_succ, List.getElem?_cons_zero] <;> rfl)); (focus exact (fun _ _ _ h => h)); (focus rfl); (focus (intro w hSw; (try dsimp only at hSw); obtain ⟨hS1, hS2⟩ := hSw; go_simp; try (with_reducible rfl))))
      (try simp only [Act.put, List.setIfInBounds_toArray, List.set_cons_zero, List.set_cons_succ])
      refine wpAnyH_done (by kernel_rfl) ?_ _
      go_wp2_with fail
      go_meet
      exact ⟨rfl, HBW.out.trans (hbb.mono HBW.out.size)⟩
    case rest =>
      obtain ⟨rfl, hb⟩ := hcut
      go_wp2_with fail
      go_ret
      exact ⟨rfl, hb⟩

theorem varBack_law (a0 : Option Addr) (len0 cap0 : Nat) (z0 : List Int) (a1 a2 : Int) (a3 : Option Addr) (len3 cap3 : Nat) (z3 : List Int) (w : World) (w0 : RowOf .u8 w a0 len0 cap0 z0) (w1 : (Lit.int .u64 a1).wf = true) (w2 : (Lit.int .i64 a2).wf = true) (w3 : RowOf .u8 w a3 len3 cap3 z3) :
    Calls Try.prog 3 #[.slice a0 len0 cap0, .int .u64 a1, .int .i64 a2, .slice a3 len3 cap3] w fun e w' => e = .returned (.bool true) ∧ Below w.heap.size w w' := by
  have h1 := rng_u64 w1
  have h2 := rng_i64 w2
  obtain ⟨v, rfl⟩ := Int.eq_ofNat_of_zero_le h1.1
  exact varBack_walk a0 len0 cap0 (z0.take len0) v a2 a3 len3 cap3 (z3.take len3) w (by omega) h2.1 h2.2 w0.rd w3.rd (fun x hx => rng_u8 (w3.wf x hx)) w0.bounds.1 w0.bounds.2
end Go.Proofs.Ytdnhlbpopohokaa
