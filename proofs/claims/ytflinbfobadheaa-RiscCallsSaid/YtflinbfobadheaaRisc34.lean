/- The contract of RiscCalls. -/
import Derived.Test.YtflinbfobadheaaRisc28
import Derived.Test.YtflinbfobadheaaRisc33
namespace Go.Proofs.Ytflinbfobadheaa
open Go.RowKit Go.Waf
set_option maxRecDepth 100000
set_option linter.unusedVariables false

theorem elemI : Elem Try.prog 28 27 8 56 := Elem.mk' (z := .agg #[.int .i64 0, .bool false, .bool false, .int .i64 0, .int .i64 0, .int .i64 0, .int .i64 0, .int .i32 0]) Try.underlying28 (by kernel_rfl) rfl (by decide)
theorem one_flat (l : List Ins) : ∀ u ∈ flat l, u.oneCell' = true := by
  intro u hu
  obtain ⟨i, _, hi⟩ := List.mem_flatMap.1 hu
  simp [boxOf] at hi
  rcases hi with rfl | rfl | rfl | rfl | rfl | rfl | rfl | rfl <;> rfl
theorem flat_append (xs ys : List Ins) : flat (xs ++ ys) = flat xs ++ flat ys := by simp [flat]
theorem owns_made (w : World) (base e size : Nat) (cs : List Value) (n : Nat) (hl : cs.length = n * size) (h1 : n ≤ maxLen) (hb : base ≤ w.heap.size) : (w.alloc (.cells cs.toArray e)).ownsRow base e size (.slice (some ⟨w.heap.size, 0, none⟩) n n) n cs := by
  refine ⟨hl, .inr ⟨w.heap.size, n, cs.toArray, rfl, hb, heap_alloc_new w _, Nat.le_refl _, h1, by simpa using hl, ?_⟩⟩
  rw [← hl]; simp
theorem made_flat (w : World) (base : Nat) (l : List Ins) (n : Nat) (hn : l.length = n) (h1 : n ≤ 1000) (hb : base ≤ w.heap.size) : (w.alloc (.cells (flat l).toArray 27)).ownsRow base 27 8 (.slice (some ⟨w.heap.size, 0, none⟩) n n) n (flat l) :=
  owns_made w base _ 8 (flat l) n (by rw [flat_length, hn]) (by simp only [maxLen]; omega) hb
def head2 (k : Nat) : List Ins := [⟨3, true, true, 7, 0, 0, 0, (k : Int) + 1⟩, ⟨3, false, true, 7, 0, 12, 0, 0⟩]
def tail2 (n : Int) : List Ins := [⟨1, false, false, 5, 0, 0, 0, n⟩, ⟨3, false, false, 7, 0, 15, 0, 0⟩]
theorem callL_parts (n : Int) (k : Nat) : callL n k = head2 k ++ List.replicate k trapI ++ tail2 n := rfl
set_option maxHeartbeats 6400000 in
theorem riscCalls_any (n sk : Int) (w : World) (w0 : (Lit.int .u8 n).wf = true) (w1 : (Lit.int .u8 sk).wf = true) :
    Calls Try.prog 7 #[.int .u8 n, .int .u8 sk] w fun e w' => e = .returned (.bool true) ∧ Below w.heap.size w w' := by
  obtain ⟨n0, n1⟩ := rng_u8 w0
  obtain ⟨s0, s1⟩ := rng_u8 w1
  have KN := Lib.hid (fun W => known_any W)
  obtain ⟨k, hk⟩ := Int.eq_ofNat_of_zero_le (show 0 ≤ sk % 20 by omega)
  have hk20 : k < 20 := by omega
  have eT : sk.tmod 20 = (k : Int) := by rw [Int.tmod_eq_emod_of_nonneg s0]; exact hk
  obtain ⟨s, hs, hfin, htrap, hout, h5, h15, hpc⟩ := call_run n k ⟨n0, n1⟩ hk20
  have HFR := Lib.hid (call_right n k ⟨n0, n1⟩ hk20)
  have HS := Lib.hid hs
  have HFIN := Lib.hid hfin
  have HTRAP := Lib.hid htrap
  have HOUT := Lib.hid hout
  have H5 := Lib.hid h5
  have H15 := Lib.hid h15
  have HPC := Lib.hid hpc
  clear w0 w1 hs hfin htrap hout h5 h15 hpc hk
  go_enter Try.func7, Try.ntmps7
  go_wp2_with (go_at_call 11; refine (KN.out _).mono ?_; rintro e wc ⟨rfl, hbc⟩)
  have HBC := Lib.hid hbc
  have hsz := hbc.size
  clear hbc
  go_loopw [6, 7] (fun c i wr => ∃ j : Nat, j ≤ k ∧ i = .int .i64 j ∧ wr.ownsRow w.heap.size 27 8 c (2 + j) (flat (head2 k ++ List.replicate j trapI)) ∧ Below w.heap.size w wr) (fun _ i _ => k - (intOf i).toNat)
  case atStart => exact ⟨0, by omega, rfl, made_flat wc w.heap.size (head2 k) 2 rfl (by omega) hsz, HBC.out.alloc hsz _⟩
  case round =>
    obtain ⟨j, hj, rfl, hown, hb⟩ := hrel
    have HOWN := Lib.hid hown
    have HB := Lib.hid hb
    have hsr := hb.size
    by_cases hlt : j < k
    · clear hown hb
      go_wp2_with (at_builtin; refine app_own _ elemI rfl _ _ rfl w.heap.size _ (2 + j) _ rfl (HOWN.out.alloc _) _ 1 (flat [trapI]) rfl (rd_new wr (flat [trapI]) 27 1 8 rfl (by decide)) (one_flat _) (by simp only [maxLen]; omega) (by omega) (by simp; omega) ?_; intro v' w3 hown3 hg3)
      go_roundw
      case rel => exact ⟨j + 1, by omega, by go_num, by rw [List.replicate_succ', ← List.append_assoc, flat_append]; exact hown3, below_of_grown (HB.out.alloc hsr _) (by simp; omega) (HOWN.out.alloc _) (Nat.le_refl _) rfl hg3⟩
      case measure => simp [intOf]; omega
    · obtain rfl : j = k := by omega
      clear hown hb
      go_wp2_with (at_builtin; refine app_own _ elemI rfl _ _ rfl w.heap.size _ (2 + j) _ rfl (HOWN.out.alloc _) _ 2 (flat (tail2 n)) rfl (rd_new wr (flat (tail2 n)) 27 2 8 rfl (by decide)) (one_flat _) (by simp only [maxLen]; omega) (by omega) (by simp; omega) ?_; intro v' w3 hown3 hg3)
      rw [← flat_append, ← callL_parts] at hown3
      have hb3 := below_of_grown (HB.out.alloc hsr (.cells (flat (tail2 n)).toArray 27)) (by simp; omega) (HOWN.out.alloc _) (Nat.le_refl _) rfl hg3
      have hlen : (callL n j).length = 2 + j + 2 := by rw [call_len]; omega
      have hrd : Rd w3 8 v' (callL n j).length (flat (callL n j)) := by rw [hlen]; exact rd_of_owns hown3
      have HRD := Lib.hid hrd
      have HB3 := Lib.hid hb3
      clear hown3 hg3 hb3 hlen hrd
      refine (put_any _ (callL n j) HFR.out (by rw [call_len]; omega) _ HRD.out).mono ?_
      rintro e w2 ⟨cv, rfl, hown, hb2⟩
      have HB2 := Lib.hid (HB3.out.trans (hb2.mono HB3.out.size))
      have HRC := Lib.hid (rd_of_owns hown)
      have hlc : (callC n j).length = (callL n j).length := List.length_map ..
      have HRC2 := Lib.hid (show Rd w2 1 cv (callC n j).length (u32s (callC n j)) from by rw [hlc]; exact HRC.out)
      clear hown hb2 hlc
      go_wp2_with fail
      refine (pnew_n _ _ _ 0 0 (.inl rfl) (callC n j) [] (fun x hx => ?_) (by unfold callC; rw [List.length_map, call_len]; omega) (by simp) (by simp) (by omega) HRC2.out (Rd.nil _ 1)).mono ?_
      · obtain ⟨i, hi, rfl⟩ := List.mem_map.1 hx
        exact enc_in i (HFR.out i hi)
      rintro e w5 ⟨q, F, cv1, mv, iv, rfl, hM, _, _, hb5⟩
      have HM := Lib.hid hM
      have HB5 := Lib.hid (HB2.out.trans (hb5.mono HB2.out.size))
      have HQ := Lib.hid HB2.out.size
      clear hM hb5
      go_wp2_with fail
      refine (prun_any HM.out 10 (by omega) (by omega) (by simp [St.new])).mono ?_
      rintro e w6 ⟨v, F', iv', ov', he, ho, hM6, _, _, hfr⟩
      change e = .returned (.agg #[v, .int .i64 ((St.new (callC n j) 0 []).stepN 10).fin, .int .i64 ((St.new (callC n j) 0 []).stepN 10).trap]) at he
      change Mach true w6 _ q F' cv1 mv iv' ov' ((St.new (callC n j) 0 []).stepN 10) at hM6
      change w6.ownsRow _ _ _ v ((St.new (callC n j) 0 []).stepN 10).out.length (byt ((St.new (callC n j) 0 []).stepN 10).out) at ho
      rw [HS.out, HFIN.out, HTRAP.out] at he
      rw [HS.out, HOUT.out] at ho
      rw [HS.out] at hM6
      subst he
      obtain ⟨va, vc, rfl, _, _, _⟩ := owns_shape ho
      have HB6 := Lib.hid (HB5.out.trans (HM.out.fr_below HQ.out hfr))
      have hR5 := fun O : Obj => preg_any (hM6.alloc O) 5 (by omega)
      have hR15 := fun O : Obj => preg_any (hM6.alloc O) 15 (by omega)
      rw [H5.out] at hR5
      rw [H15.out] at hR15
      have HR5 := Lib.hid hR5
      have HR15 := Lib.hid hR15
      have HM6 := Lib.hid hM6
      have HOV := Lib.hid (rd_of_owns ho)
      clear ho hM6 hfr HM hR5 hR15
      go_wp2_with fail
      refine (HR5.out _).mono ?_; rintro e wz ⟨rfl, rfl⟩
      go_wp2_with fail
      refine (HR15.out _).mono ?_; rintro e wz ⟨rfl, rfl⟩
      go_wp2_with fail
      obtain ⟨w7, hw7⟩ : ∃ w7, w7 = w6.alloc (.cells #[.slice va 0 vc, .int .i64 1, .int .i64 0] 30) := ⟨_, rfl⟩
      rw [← hw7]
      have hb67 : Below w6.heap.size w6 w7 := by rw [hw7]; exact (Below.refl _ _).alloc (Nat.le_refl _) _
      have n0' : w7.cell? ⟨w6.heap.size, 0, none⟩ = some (.slice va 0 vc) := by rw [hw7, World.cell?_alloc_new]; rfl
      have n1' : w7.cell? ⟨w6.heap.size, 1, none⟩ = some (.int .i64 1) := by rw [hw7, World.cell?_alloc_new]; rfl
      have n2' : w7.cell? ⟨w6.heap.size, 2, none⟩ = some (.int .i64 0) := by rw [hw7, World.cell?_alloc_new]; rfl
      have HM7 := Lib.hid (HM6.out.below hb67)
      have HRA := Lib.hid (HOV.out.below hb67 (Nat.le_refl _))
      have HB7 := Lib.hid (HB6.out.trans (hb67.mono HB6.out.size))
      have hb0 : Below w7.heap.size w7 w7.drew := (Below.refl _ _).drew
      have M1 := Lib.hid (fun W (h : Below w7.heap.size w7 W) => HM7.out.below h)
      have RA1 := Lib.hid (fun W (h : Below w7.heap.size w7 W) => HRA.out.below h (Nat.le_refl _))
      have eW : IntKind.u32.wrap n = n := by rw [u32_mod]; omega
      clear hw7 hb67
      go_region_held3 (fun W => W.cell? ⟨w6.heap.size, 0, none⟩ = some (.slice va 0 vc) ∧ W.cell? ⟨w6.heap.size, 1, none⟩ = some (.int .i64 1) ∧ W.cell? ⟨w6.heap.size, 2, none⟩ = some (.int .i64 0))
        (first | (with_reducible exact ⟨d1, d2, d3⟩) | go_keep)
        ((first
          | (go_at_call 21; refine (presult_any (M1.out _ hb0) (by rw [HOUT.out]; simp)).mono ?_; rintro e wa ⟨vb, he, hob, hba⟩; rw [HFIN.out, HTRAP.out] at he; subst he; rw [HOUT.out] at hob; have rA := rd_of_owns hob; obtain ⟨aa, ca, rfl, _, _, _⟩ := owns_shape hob; have hbA := below_pass hb0 hba; have d1 := late5 n0' hbA; have d2 := late5 n1' hbA; have d3 := late5 n2' hbA)
          | (go_at_call 16; refine (hresult_any _ _ _ [] _ _ (RA1.out _ hbA) rA).mono ?_; rintro e wd ⟨rfl, hbd⟩; have hbD := below_pass hbA hbd; have d1 := late5 n0' hbD; have d2 := late5 n1' hbD; have d3 := late5 n2' hbD)
          | (go_at_call 17; refine (ppc_any (M1.out _ hbD)).mono ?_; rintro e wz ⟨he, rfl⟩; rw [HPC.out] at he; subst he)))
      all_goals
        go_wp2_with fail
        go_ret
        exact ⟨rfl, below_pass HB7.out hbD⟩
end Go.Proofs.Ytflinbfobadheaa
