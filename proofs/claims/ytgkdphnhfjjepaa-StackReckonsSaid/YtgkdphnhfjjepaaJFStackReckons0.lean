/- The walks and the plain lemmas of the statement, joined: part 8. No condition. -/
import Derived.Test.YtgkdphnhfjjepaaJStk427
import Derived.Test.YtgkdphnhfjjepaaJStk420

/- The contract of StackReckons (printed by gen_stk47.py). -/
namespace Go.Proofs.Ytgkdphnhfjjepaa
open Go.RowKit Go.Waf
set_option maxRecDepth 100000
set_option linter.unusedVariables false
set_option linter.unusedSimpArgs false

def rcode (a b o : Int) : List (Int × Int) := [(1, a), (1, b), (o, 0), (0, 0)]
def rks (a b o : Int) : SSt := ⟨rcode a b o, [], [], [], 0, 0, [], 0, [], 0, 0⟩
def rkx (a b o x : Int) : SSt := ⟨rcode a b o, [], [], [x], 0, 0, [], 3, [], 0, 0⟩
def rkf (a b o : Int) : SSt := ⟨rcode a b o, [], [], [b, a], 0, 0, [], 2, [], 2, 15⟩
theorem rk_three (a b o : Int) (ho : isTwo o) : (rks a b o).stepN 3 = ((two o a b).map fun x => rkx a b o x).getD (rkf a b o) := by
  rcases ho with (rfl | rfl | rfl | rfl | rfl | rfl | rfl | rfl | rfl | rfl | rfl) | rfl | rfl | rfl
  all_goals kernel_rfl
theorem rkx_end (a b o x : Int) : (rkx a b o x).stepN 6 = { rkx a b o x with fin := 1 } := by kernel_rfl
theorem rk_some {a b o x : Int} (ho : isTwo o) (h : two o a b = some x) : ((rks a b o).stepN 9).fin = 1 ∧ ((rks a b o).stepN 9).st = [x] ∧ ((rks a b o).stepN 9).trap = 0 := by
  rw [show (9 : Nat) = 3 + 6 from rfl, SSt.stepN_add, rk_three a b o ho, h]
  show ((rkx a b o x).stepN 6).fin = 1 ∧ ((rkx a b o x).stepN 6).st = [x] ∧ ((rkx a b o x).stepN 6).trap = 0
  rw [rkx_end]; exact ⟨rfl, rfl, rfl⟩
theorem rk_none {a b o : Int} (ho : isTwo o) (h : two o a b = none) : (rks a b o).stepN 9 = rkf a b o := by
  rw [show (9 : Nat) = 3 + 6 from rfl, SSt.stepN_add, rk_three a b o ho, h]
  exact SSt.stepN_stop _ (by show (2 : Int) ≠ 0; decide) 6
theorem rcode_ok {a b o : Int} (ha : I32 a) (hb : I32 b) (h0 : 0 ≤ o) (h1 : o < 34) : CodeOk (rcode a b o) := by
  intro c hc
  simp only [rcode, List.mem_cons, List.not_mem_nil, or_false] at hc
  have hz : I32 0 := by unfold I32; omega
  rcases hc with rfl | rfl | rfl | rfl
  · exact ⟨by show (-9223372036854775808 : Int) ≤ 1; decide, by show (1 : Int) ≤ 9223372036854775807; decide, ha⟩
  · exact ⟨by show (-9223372036854775808 : Int) ≤ 1; decide, by show (1 : Int) ≤ 9223372036854775807; decide, hb⟩
  · exact ⟨by show _ ≤ o; omega, by show o ≤ _; omega, hz⟩
  · exact ⟨by decide, by decide, hz⟩
theorem flag_any (b : Bool) (w : World) : Calls Try.prog 20 #[.bool b] w fun e w' => e = .returned (.int .i32 (tell b)) ∧ w' = w := by
  cases b
  all_goals
    go_enter Try.func20, Try.ntmps20
    go_wp2_with fail
    go_ret
    exact ⟨rfl, rfl⟩
def Reck (a b op : Int) (w : World) : Prop := Calls Try.prog 4 #[.int .i32 a, .int .i32 b, .int .u8 op] w fun e w' => e = .returned (.bool true) ∧ Below w.heap.size w w'
set_option maxHeartbeats 3200000 in
theorem rk0 (a b op : Int) (w : World) (ha : I32 a) (hb : I32 b) (h0 : 0 ≤ op) (h1 : op ≤ 255) (hr : op % 16 = 0) : Reck a b op w := by
  have KN := Lib.hid (fun W => known_any W)
  have eT : op.tmod 16 = 0 := by rw [Int.tmod_eq_emod_of_nonneg h0]; exact hr
  have HA := Lib.hid ha
  have HB := Lib.hid hb
  unfold I32 at ha hb
  obtain ⟨a0, a1⟩ := ha
  obtain ⟨b0, b1⟩ := hb
  have ho : isTwo 9 := by unfold isTwo isSum; decide
  have h2 : two 9 a b = some (wrap32 (a + b)) := by simp [two, sumV]
  have HX := Lib.hid (two_in HA.out HB.out h2)
  obtain ⟨f1, f2, f3⟩ := rk_some ho h2
  have HF1 := Lib.hid f1
  have HF2 := Lib.hid f2
  have HF3 := Lib.hid f3
  clear h2 f1 f2 f3 ho
  unfold Reck
  go_enter Try.func4, Try.ntmps4
  go_wp2_with (go_at_call 11; refine (KN.out _).mono ?_; rintro e wc ⟨rfl, hbc⟩; have HBC := Lib.hid hbc; clear hbc)
  have hrc := rd_new wc (codeCells (rcode a b 9)) 25 4 2 rfl (by decide)
  have HBA := Lib.hid (HBC.out.alloc HBC.out.size (.cells #[.int .i64 1, .int .i32 a, .int .i64 1, .int .i32 b, .int .i64 9, .int .i32 0, .int .i64 0, .int .i32 0] 25))
  refine (pnew_any _ _ _ 0 0 0 (.inl rfl) (rcode a b 9) [] (rcode_ok HA.out HB.out (by decide) (by decide)) (by simp [rcode]) (by simp) (by simp) (by omega) hrc (Rd.nil _ 1)).mono ?_
  rintro e w5 ⟨q, F, cv, mv, iv, rfl, hM, _, _, hb5⟩
  have HM := Lib.hid (show SM true w5 _ q F cv mv iv (.slice none 0 0) (.slice none 0 0) (.slice none 0 0) (rks a b 9) from hM)
  have HB5 := Lib.hid (HBA.out.trans (hb5.mono HBA.out.size))
  clear hM hb5 hrc
  go_wp2_with fail
  refine (prun_any HM.out 9 (by omega) (by omega) (by simp [rks])).mono ?_
  rintro e w6 ⟨v, he, ho, F', iv', sv', kv', ov', hM6, _, hmv⟩
  change e = .returned (.agg #[v, .int .i64 ((rks a b 9).stepN 9).fin, .int .i64 ((rks a b 9).stepN 9).trap]) at he
  change SM true w6 _ q F' cv mv iv' sv' kv' ov' ((rks a b 9).stepN 9) at hM6
  rw [HF1.out, HF3.out] at he
  subst he
  obtain ⟨va, vc, rfl, _, _, _⟩ := owns_shape ho
  have HB6 := Lib.hid (HB5.out.trans (HM.out.fr_below HBA.out.size hmv))
  have hop := fun O : Obj => pops_any (hM6.alloc O)
  rw [HF2.out] at hop
  have HOP := Lib.hid hop
  clear ho hM6 hmv hop
  go_wp2_with fail
  refine (HOP.out _).mono ?_; rintro e w8 ⟨v8, rfl, ho8, hb8⟩
  have rA := rd_of_owns ho8
  obtain ⟨a8, c8, rfl, _⟩ := owns_shape ho8
  have RA := Lib.hid rA
  have HB8 := Lib.hid ((HB6.out.alloc HB6.out.size _).trans (hb8.mono (HB6.out.alloc HB6.out.size _).size))
  clear rA ho8 hb8
  go_wp2_with fail
  refine (int32s_any _ _ _ 1 [wrap32 (a + b)] (RA.out.below ((Below.refl _ _).alloc (Nat.le_refl _) _) (Nat.le_refl _)) (rd_new w8 (i32s [wrap32 (a + b)]) 21 1 1 rfl (by decide)) (by omega)).mono ?_
  rintro e w9 ⟨rfl, hb9⟩
  have HB9 := Lib.hid ((HB8.out.alloc HB8.out.size _).trans (hb9.mono (HB8.out.alloc HB8.out.size _).size))
  clear hb9
  go_wp2_with fail
  go_ret
  exact ⟨rfl, HB9.out⟩
set_option maxHeartbeats 3200000 in
theorem rk1 (a b op : Int) (w : World) (ha : I32 a) (hb : I32 b) (h0 : 0 ≤ op) (h1 : op ≤ 255) (hr : op % 16 = 1) : Reck a b op w := by
  have KN := Lib.hid (fun W => known_any W)
  have eT : op.tmod 16 = 1 := by rw [Int.tmod_eq_emod_of_nonneg h0]; exact hr
  have HA := Lib.hid ha
  have HB := Lib.hid hb
  unfold I32 at ha hb
  obtain ⟨a0, a1⟩ := ha
  obtain ⟨b0, b1⟩ := hb
  have ho : isTwo 10 := by unfold isTwo isSum; decide
  have h2 : two 10 a b = some (wrap32 (a - b)) := by simp [two, sumV]
  have HX := Lib.hid (two_in HA.out HB.out h2)
  obtain ⟨f1, f2, f3⟩ := rk_some ho h2
  have HF1 := Lib.hid f1
  have HF2 := Lib.hid f2
  have HF3 := Lib.hid f3
  clear h2 f1 f2 f3 ho
  unfold Reck
  go_enter Try.func4, Try.ntmps4
  go_wp2_with (go_at_call 11; refine (KN.out _).mono ?_; rintro e wc ⟨rfl, hbc⟩; have HBC := Lib.hid hbc; clear hbc)
  have hrc := rd_new wc (codeCells (rcode a b 10)) 25 4 2 rfl (by decide)
  have HBA := Lib.hid (HBC.out.alloc HBC.out.size (.cells #[.int .i64 1, .int .i32 a, .int .i64 1, .int .i32 b, .int .i64 10, .int .i32 0, .int .i64 0, .int .i32 0] 25))
  refine (pnew_any _ _ _ 0 0 0 (.inl rfl) (rcode a b 10) [] (rcode_ok HA.out HB.out (by decide) (by decide)) (by simp [rcode]) (by simp) (by simp) (by omega) hrc (Rd.nil _ 1)).mono ?_
  rintro e w5 ⟨q, F, cv, mv, iv, rfl, hM, _, _, hb5⟩
  have HM := Lib.hid (show SM true w5 _ q F cv mv iv (.slice none 0 0) (.slice none 0 0) (.slice none 0 0) (rks a b 10) from hM)
  have HB5 := Lib.hid (HBA.out.trans (hb5.mono HBA.out.size))
  clear hM hb5 hrc
  go_wp2_with fail
  refine (prun_any HM.out 9 (by omega) (by omega) (by simp [rks])).mono ?_
  rintro e w6 ⟨v, he, ho, F', iv', sv', kv', ov', hM6, _, hmv⟩
  change e = .returned (.agg #[v, .int .i64 ((rks a b 10).stepN 9).fin, .int .i64 ((rks a b 10).stepN 9).trap]) at he
  change SM true w6 _ q F' cv mv iv' sv' kv' ov' ((rks a b 10).stepN 9) at hM6
  rw [HF1.out, HF3.out] at he
  subst he
  obtain ⟨va, vc, rfl, _, _, _⟩ := owns_shape ho
  have HB6 := Lib.hid (HB5.out.trans (HM.out.fr_below HBA.out.size hmv))
  have hop := fun O : Obj => pops_any (hM6.alloc O)
  rw [HF2.out] at hop
  have HOP := Lib.hid hop
  clear ho hM6 hmv hop
  go_wp2_with fail
  refine (HOP.out _).mono ?_; rintro e w8 ⟨v8, rfl, ho8, hb8⟩
  have rA := rd_of_owns ho8
  obtain ⟨a8, c8, rfl, _⟩ := owns_shape ho8
  have RA := Lib.hid rA
  have HB8 := Lib.hid ((HB6.out.alloc HB6.out.size _).trans (hb8.mono (HB6.out.alloc HB6.out.size _).size))
  clear rA ho8 hb8
  go_wp2_with fail
  refine (int32s_any _ _ _ 1 [wrap32 (a - b)] (RA.out.below ((Below.refl _ _).alloc (Nat.le_refl _) _) (Nat.le_refl _)) (rd_new w8 (i32s [wrap32 (a - b)]) 21 1 1 rfl (by decide)) (by omega)).mono ?_
  rintro e w9 ⟨rfl, hb9⟩
  have HB9 := Lib.hid ((HB8.out.alloc HB8.out.size _).trans (hb9.mono (HB8.out.alloc HB8.out.size _).size))
  clear hb9
  go_wp2_with fail
  go_ret
  exact ⟨rfl, HB9.out⟩
set_option maxHeartbeats 3200000 in
theorem rk2 (a b op : Int) (w : World) (ha : I32 a) (hb : I32 b) (h0 : 0 ≤ op) (h1 : op ≤ 255) (hr : op % 16 = 2) : Reck a b op w := by
  have KN := Lib.hid (fun W => known_any W)
  have eT : op.tmod 16 = 2 := by rw [Int.tmod_eq_emod_of_nonneg h0]; exact hr
  have HA := Lib.hid ha
  have HB := Lib.hid hb
  unfold I32 at ha hb
  obtain ⟨a0, a1⟩ := ha
  obtain ⟨b0, b1⟩ := hb
  have ho : isTwo 11 := by unfold isTwo isSum; decide
  have h2 : two 11 a b = some (wrap32 (a * b)) := by simp [two, sumV]
  have HX := Lib.hid (two_in HA.out HB.out h2)
  obtain ⟨f1, f2, f3⟩ := rk_some ho h2
  have HF1 := Lib.hid f1
  have HF2 := Lib.hid f2
  have HF3 := Lib.hid f3
  clear h2 f1 f2 f3 ho
  unfold Reck
  go_enter Try.func4, Try.ntmps4
  go_wp2_with (go_at_call 11; refine (KN.out _).mono ?_; rintro e wc ⟨rfl, hbc⟩; have HBC := Lib.hid hbc; clear hbc)
  have hrc := rd_new wc (codeCells (rcode a b 11)) 25 4 2 rfl (by decide)
  have HBA := Lib.hid (HBC.out.alloc HBC.out.size (.cells #[.int .i64 1, .int .i32 a, .int .i64 1, .int .i32 b, .int .i64 11, .int .i32 0, .int .i64 0, .int .i32 0] 25))
  refine (pnew_any _ _ _ 0 0 0 (.inl rfl) (rcode a b 11) [] (rcode_ok HA.out HB.out (by decide) (by decide)) (by simp [rcode]) (by simp) (by simp) (by omega) hrc (Rd.nil _ 1)).mono ?_
  rintro e w5 ⟨q, F, cv, mv, iv, rfl, hM, _, _, hb5⟩
  have HM := Lib.hid (show SM true w5 _ q F cv mv iv (.slice none 0 0) (.slice none 0 0) (.slice none 0 0) (rks a b 11) from hM)
  have HB5 := Lib.hid (HBA.out.trans (hb5.mono HBA.out.size))
  clear hM hb5 hrc
  go_wp2_with fail
  refine (prun_any HM.out 9 (by omega) (by omega) (by simp [rks])).mono ?_
  rintro e w6 ⟨v, he, ho, F', iv', sv', kv', ov', hM6, _, hmv⟩
  change e = .returned (.agg #[v, .int .i64 ((rks a b 11).stepN 9).fin, .int .i64 ((rks a b 11).stepN 9).trap]) at he
  change SM true w6 _ q F' cv mv iv' sv' kv' ov' ((rks a b 11).stepN 9) at hM6
  rw [HF1.out, HF3.out] at he
  subst he
  obtain ⟨va, vc, rfl, _, _, _⟩ := owns_shape ho
  have HB6 := Lib.hid (HB5.out.trans (HM.out.fr_below HBA.out.size hmv))
  have hop := fun O : Obj => pops_any (hM6.alloc O)
  rw [HF2.out] at hop
  have HOP := Lib.hid hop
  clear ho hM6 hmv hop
  go_wp2_with fail
  refine (HOP.out _).mono ?_; rintro e w8 ⟨v8, rfl, ho8, hb8⟩
  have rA := rd_of_owns ho8
  obtain ⟨a8, c8, rfl, _⟩ := owns_shape ho8
  have RA := Lib.hid rA
  have HB8 := Lib.hid ((HB6.out.alloc HB6.out.size _).trans (hb8.mono (HB6.out.alloc HB6.out.size _).size))
  clear rA ho8 hb8
  go_wp2_with fail
  refine (int32s_any _ _ _ 1 [wrap32 (a * b)] (RA.out.below ((Below.refl _ _).alloc (Nat.le_refl _) _) (Nat.le_refl _)) (rd_new w8 (i32s [wrap32 (a * b)]) 21 1 1 rfl (by decide)) (by omega)).mono ?_
  rintro e w9 ⟨rfl, hb9⟩
  have HB9 := Lib.hid ((HB8.out.alloc HB8.out.size _).trans (hb9.mono (HB8.out.alloc HB8.out.size _).size))
  clear hb9
  go_wp2_with fail
  go_ret
  exact ⟨rfl, HB9.out⟩
set_option maxHeartbeats 3200000 in
theorem rk3 (a b op : Int) (w : World) (ha : I32 a) (hb : I32 b) (h0 : 0 ≤ op) (h1 : op ≤ 255) (hr : op % 16 = 3) (hd : 1 ≤ b) : Reck a b op w := by
  have KN := Lib.hid (fun W => known_any W)
  have eT : op.tmod 16 = 3 := by rw [Int.tmod_eq_emod_of_nonneg h0]; exact hr
  have HA := Lib.hid ha
  have HB := Lib.hid hb
  unfold I32 at ha hb
  obtain ⟨a0, a1⟩ := ha
  obtain ⟨b0, b1⟩ := hb
  have ho : isTwo 12 := by unfold isTwo isSum; decide
  have h2 : two 12 a b = some (a / b) := by simp [two, sumV, hd]
  have HX := Lib.hid (two_in HA.out HB.out h2)
  obtain ⟨f1, f2, f3⟩ := rk_some ho h2
  have HF1 := Lib.hid f1
  have HF2 := Lib.hid f2
  have HF3 := Lib.hid f3
  clear h2 f1 f2 f3 ho
  unfold Reck
  go_enter Try.func4, Try.ntmps4
  go_wp2_with (go_at_call 11; refine (KN.out _).mono ?_; rintro e wc ⟨rfl, hbc⟩; have HBC := Lib.hid hbc; clear hbc)
  have hrc := rd_new wc (codeCells (rcode a b 12)) 25 4 2 rfl (by decide)
  have HBA := Lib.hid (HBC.out.alloc HBC.out.size (.cells #[.int .i64 1, .int .i32 a, .int .i64 1, .int .i32 b, .int .i64 12, .int .i32 0, .int .i64 0, .int .i32 0] 25))
  refine (pnew_any _ _ _ 0 0 0 (.inl rfl) (rcode a b 12) [] (rcode_ok HA.out HB.out (by decide) (by decide)) (by simp [rcode]) (by simp) (by simp) (by omega) hrc (Rd.nil _ 1)).mono ?_
  rintro e w5 ⟨q, F, cv, mv, iv, rfl, hM, _, _, hb5⟩
  have HM := Lib.hid (show SM true w5 _ q F cv mv iv (.slice none 0 0) (.slice none 0 0) (.slice none 0 0) (rks a b 12) from hM)
  have HB5 := Lib.hid (HBA.out.trans (hb5.mono HBA.out.size))
  clear hM hb5 hrc
  go_wp2_with fail
  refine (prun_any HM.out 9 (by omega) (by omega) (by simp [rks])).mono ?_
  rintro e w6 ⟨v, he, ho, F', iv', sv', kv', ov', hM6, _, hmv⟩
  change e = .returned (.agg #[v, .int .i64 ((rks a b 12).stepN 9).fin, .int .i64 ((rks a b 12).stepN 9).trap]) at he
  change SM true w6 _ q F' cv mv iv' sv' kv' ov' ((rks a b 12).stepN 9) at hM6
  rw [HF1.out, HF3.out] at he
  subst he
  obtain ⟨va, vc, rfl, _, _, _⟩ := owns_shape ho
  have HB6 := Lib.hid (HB5.out.trans (HM.out.fr_below HBA.out.size hmv))
  have hop := fun O : Obj => pops_any (hM6.alloc O)
  rw [HF2.out] at hop
  have HOP := Lib.hid hop
  clear ho hM6 hmv hop
  go_wp2_with (go_at_call 15; refine (rdiv_yes a b _ hd a0 a1 b1).mono ?_; rintro e wz ⟨rfl, rfl⟩)
  refine (HOP.out _).mono ?_; rintro e w8 ⟨v8, rfl, ho8, hb8⟩
  have rA := rd_of_owns ho8
  obtain ⟨a8, c8, rfl, _⟩ := owns_shape ho8
  have RA := Lib.hid rA
  have HB8 := Lib.hid ((HB6.out.alloc HB6.out.size _).trans (hb8.mono (HB6.out.alloc HB6.out.size _).size))
  clear rA ho8 hb8
  go_wp2_with fail
  refine (int32s_any _ _ _ 1 [a / b] (RA.out.below ((Below.refl _ _).alloc (Nat.le_refl _) _) (Nat.le_refl _)) (rd_new w8 (i32s [a / b]) 21 1 1 rfl (by decide)) (by omega)).mono ?_
  rintro e w9 ⟨rfl, hb9⟩
  have HB9 := Lib.hid ((HB8.out.alloc HB8.out.size _).trans (hb9.mono (HB8.out.alloc HB8.out.size _).size))
  clear hb9
  go_wp2_with fail
  go_ret
  exact ⟨rfl, HB9.out⟩
set_option maxHeartbeats 3200000 in
theorem rk3n (a b op : Int) (w : World) (ha : I32 a) (hb : I32 b) (h0 : 0 ≤ op) (h1 : op ≤ 255) (hr : op % 16 = 3) (hd : ¬ 1 ≤ b) : Reck a b op w := by
  have KN := Lib.hid (fun W => known_any W)
  have eT : op.tmod 16 = 3 := by rw [Int.tmod_eq_emod_of_nonneg h0]; exact hr
  have HA := Lib.hid ha
  have HB := Lib.hid hb
  unfold I32 at ha hb
  obtain ⟨a0, a1⟩ := ha
  obtain ⟨b0, b1⟩ := hb
  have ho : isTwo 12 := by unfold isTwo isSum; decide
  have HN := Lib.hid (rk_none ho (show two 12 a b = none from by simp [two, sumV]; omega))
  clear ho
  unfold Reck
  go_enter Try.func4, Try.ntmps4
  go_wp2_with (go_at_call 11; refine (KN.out _).mono ?_; rintro e wc ⟨rfl, hbc⟩; have HBC := Lib.hid hbc; clear hbc)
  have hrc := rd_new wc (codeCells (rcode a b 12)) 25 4 2 rfl (by decide)
  have HBA := Lib.hid (HBC.out.alloc HBC.out.size (.cells #[.int .i64 1, .int .i32 a, .int .i64 1, .int .i32 b, .int .i64 12, .int .i32 0, .int .i64 0, .int .i32 0] 25))
  refine (pnew_any _ _ _ 0 0 0 (.inl rfl) (rcode a b 12) [] (rcode_ok HA.out HB.out (by decide) (by decide)) (by simp [rcode]) (by simp) (by simp) (by omega) hrc (Rd.nil _ 1)).mono ?_
  rintro e w5 ⟨q, F, cv, mv, iv, rfl, hM, _, _, hb5⟩
  have HM := Lib.hid (show SM true w5 _ q F cv mv iv (.slice none 0 0) (.slice none 0 0) (.slice none 0 0) (rks a b 12) from hM)
  have HB5 := Lib.hid (HBA.out.trans (hb5.mono HBA.out.size))
  clear hM hb5 hrc
  go_wp2_with fail
  refine (prun_any HM.out 9 (by omega) (by omega) (by simp [rks])).mono ?_
  rintro e w6 ⟨v, he, ho, F', iv', sv', kv', ov', hM6, _, hmv⟩
  change e = .returned (.agg #[v, .int .i64 ((rks a b 12).stepN 9).fin, .int .i64 ((rks a b 12).stepN 9).trap]) at he
  change SM true w6 _ q F' cv mv iv' sv' kv' ov' ((rks a b 12).stepN 9) at hM6
  rw [HN.out] at he hM6
  have he' : e = .returned (.agg #[v, .int .i64 2, .int .i64 15]) := he
  subst he'
  obtain ⟨va, vc, rfl, _, _, _⟩ := owns_shape ho
  have HB6 := Lib.hid (HB5.out.trans (HM.out.fr_below HBA.out.size hmv))
  have HPC := Lib.hid (fun O : Obj => show Calls Try.prog 21 #[.pointer (some ⟨q, 0, none⟩)] (w6.alloc O) (fun e w' => e = .returned (.int .i64 2) ∧ w6.alloc O = w') from ppc_any (hM6.alloc O))
  clear ho hM6 hmv he
  go_wp2_with (go_at_call 15; refine (rdiv_no a b _ (by omega)).mono ?_; rintro e wz ⟨rfl, rfl⟩)
  refine (HPC.out _).mono ?_; rintro e w8 ⟨rfl, rfl⟩
  go_wp2_with fail
  go_ret
  exact ⟨rfl, HB6.out.alloc HB6.out.size _⟩
set_option maxHeartbeats 3200000 in
theorem rk4 (a b op : Int) (w : World) (ha : I32 a) (hb : I32 b) (h0 : 0 ≤ op) (h1 : op ≤ 255) (hr : op % 16 = 4) (hd : 1 ≤ b) : Reck a b op w := by
  have KN := Lib.hid (fun W => known_any W)
  have eT : op.tmod 16 = 4 := by rw [Int.tmod_eq_emod_of_nonneg h0]; exact hr
  have HA := Lib.hid ha
  have HB := Lib.hid hb
  unfold I32 at ha hb
  obtain ⟨a0, a1⟩ := ha
  obtain ⟨b0, b1⟩ := hb
  have ho : isTwo 13 := by unfold isTwo isSum; decide
  have h2 : two 13 a b = some (a % b) := by simp [two, sumV, hd]
  have HX := Lib.hid (two_in HA.out HB.out h2)
  obtain ⟨f1, f2, f3⟩ := rk_some ho h2
  have HF1 := Lib.hid f1
  have HF2 := Lib.hid f2
  have HF3 := Lib.hid f3
  clear h2 f1 f2 f3 ho
  unfold Reck
  go_enter Try.func4, Try.ntmps4
  go_wp2_with (go_at_call 11; refine (KN.out _).mono ?_; rintro e wc ⟨rfl, hbc⟩; have HBC := Lib.hid hbc; clear hbc)
  have hrc := rd_new wc (codeCells (rcode a b 13)) 25 4 2 rfl (by decide)
  have HBA := Lib.hid (HBC.out.alloc HBC.out.size (.cells #[.int .i64 1, .int .i32 a, .int .i64 1, .int .i32 b, .int .i64 13, .int .i32 0, .int .i64 0, .int .i32 0] 25))
  refine (pnew_any _ _ _ 0 0 0 (.inl rfl) (rcode a b 13) [] (rcode_ok HA.out HB.out (by decide) (by decide)) (by simp [rcode]) (by simp) (by simp) (by omega) hrc (Rd.nil _ 1)).mono ?_
  rintro e w5 ⟨q, F, cv, mv, iv, rfl, hM, _, _, hb5⟩
  have HM := Lib.hid (show SM true w5 _ q F cv mv iv (.slice none 0 0) (.slice none 0 0) (.slice none 0 0) (rks a b 13) from hM)
  have HB5 := Lib.hid (HBA.out.trans (hb5.mono HBA.out.size))
  clear hM hb5 hrc
  go_wp2_with fail
  refine (prun_any HM.out 9 (by omega) (by omega) (by simp [rks])).mono ?_
  rintro e w6 ⟨v, he, ho, F', iv', sv', kv', ov', hM6, _, hmv⟩
  change e = .returned (.agg #[v, .int .i64 ((rks a b 13).stepN 9).fin, .int .i64 ((rks a b 13).stepN 9).trap]) at he
  change SM true w6 _ q F' cv mv iv' sv' kv' ov' ((rks a b 13).stepN 9) at hM6
  rw [HF1.out, HF3.out] at he
  subst he
  obtain ⟨va, vc, rfl, _, _, _⟩ := owns_shape ho
  have HB6 := Lib.hid (HB5.out.trans (HM.out.fr_below HBA.out.size hmv))
  have hop := fun O : Obj => pops_any (hM6.alloc O)
  rw [HF2.out] at hop
  have HOP := Lib.hid hop
  clear ho hM6 hmv hop
  go_wp2_with (go_at_call 16; refine (rmod_yes a b _ hd b1 a0 a1).mono ?_; rintro e wz ⟨rfl, rfl⟩)
  refine (HOP.out _).mono ?_; rintro e w8 ⟨v8, rfl, ho8, hb8⟩
  have rA := rd_of_owns ho8
  obtain ⟨a8, c8, rfl, _⟩ := owns_shape ho8
  have RA := Lib.hid rA
  have HB8 := Lib.hid ((HB6.out.alloc HB6.out.size _).trans (hb8.mono (HB6.out.alloc HB6.out.size _).size))
  clear rA ho8 hb8
  go_wp2_with fail
  refine (int32s_any _ _ _ 1 [a % b] (RA.out.below ((Below.refl _ _).alloc (Nat.le_refl _) _) (Nat.le_refl _)) (rd_new w8 (i32s [a % b]) 21 1 1 rfl (by decide)) (by omega)).mono ?_
  rintro e w9 ⟨rfl, hb9⟩
  have HB9 := Lib.hid ((HB8.out.alloc HB8.out.size _).trans (hb9.mono (HB8.out.alloc HB8.out.size _).size))
  clear hb9
  go_wp2_with fail
  go_ret
  exact ⟨rfl, HB9.out⟩
set_option maxHeartbeats 3200000 in
theorem rk4n (a b op : Int) (w : World) (ha : I32 a) (hb : I32 b) (h0 : 0 ≤ op) (h1 : op ≤ 255) (hr : op % 16 = 4) (hd : ¬ 1 ≤ b) : Reck a b op w := by
  have KN := Lib.hid (fun W => known_any W)
  have eT : op.tmod 16 = 4 := by rw [Int.tmod_eq_emod_of_nonneg h0]; exact hr
  have HA := Lib.hid ha
  have HB := Lib.hid hb
  unfold I32 at ha hb
  obtain ⟨a0, a1⟩ := ha
  obtain ⟨b0, b1⟩ := hb
  have ho : isTwo 13 := by unfold isTwo isSum; decide
  have HN := Lib.hid (rk_none ho (show two 13 a b = none from by simp [two, sumV]; omega))
  clear ho
  unfold Reck
  go_enter Try.func4, Try.ntmps4
  go_wp2_with (go_at_call 11; refine (KN.out _).mono ?_; rintro e wc ⟨rfl, hbc⟩; have HBC := Lib.hid hbc; clear hbc)
  have hrc := rd_new wc (codeCells (rcode a b 13)) 25 4 2 rfl (by decide)
  have HBA := Lib.hid (HBC.out.alloc HBC.out.size (.cells #[.int .i64 1, .int .i32 a, .int .i64 1, .int .i32 b, .int .i64 13, .int .i32 0, .int .i64 0, .int .i32 0] 25))
  refine (pnew_any _ _ _ 0 0 0 (.inl rfl) (rcode a b 13) [] (rcode_ok HA.out HB.out (by decide) (by decide)) (by simp [rcode]) (by simp) (by simp) (by omega) hrc (Rd.nil _ 1)).mono ?_
  rintro e w5 ⟨q, F, cv, mv, iv, rfl, hM, _, _, hb5⟩
  have HM := Lib.hid (show SM true w5 _ q F cv mv iv (.slice none 0 0) (.slice none 0 0) (.slice none 0 0) (rks a b 13) from hM)
  have HB5 := Lib.hid (HBA.out.trans (hb5.mono HBA.out.size))
  clear hM hb5 hrc
  go_wp2_with fail
  refine (prun_any HM.out 9 (by omega) (by omega) (by simp [rks])).mono ?_
  rintro e w6 ⟨v, he, ho, F', iv', sv', kv', ov', hM6, _, hmv⟩
  change e = .returned (.agg #[v, .int .i64 ((rks a b 13).stepN 9).fin, .int .i64 ((rks a b 13).stepN 9).trap]) at he
  change SM true w6 _ q F' cv mv iv' sv' kv' ov' ((rks a b 13).stepN 9) at hM6
  rw [HN.out] at he hM6
  have he' : e = .returned (.agg #[v, .int .i64 2, .int .i64 15]) := he
  subst he'
  obtain ⟨va, vc, rfl, _, _, _⟩ := owns_shape ho
  have HB6 := Lib.hid (HB5.out.trans (HM.out.fr_below HBA.out.size hmv))
  have HPC := Lib.hid (fun O : Obj => show Calls Try.prog 21 #[.pointer (some ⟨q, 0, none⟩)] (w6.alloc O) (fun e w' => e = .returned (.int .i64 2) ∧ w6.alloc O = w') from ppc_any (hM6.alloc O))
  clear ho hM6 hmv he
  go_wp2_with (go_at_call 16; refine (rmod_no a b _ (by omega)).mono ?_; rintro e wz ⟨rfl, rfl⟩)
  refine (HPC.out _).mono ?_; rintro e w8 ⟨rfl, rfl⟩
  go_wp2_with fail
  go_ret
  exact ⟨rfl, HB6.out.alloc HB6.out.size _⟩
set_option maxHeartbeats 3200000 in
theorem rk5 (a b op : Int) (w : World) (ha : I32 a) (hb : I32 b) (h0 : 0 ≤ op) (h1 : op ≤ 255) (hr : op % 16 = 5) : Reck a b op w := by
  have KN := Lib.hid (fun W => known_any W)
  have eT : op.tmod 16 = 5 := by rw [Int.tmod_eq_emod_of_nonneg h0]; exact hr
  have HA := Lib.hid ha
  have HB := Lib.hid hb
  unfold I32 at ha hb
  obtain ⟨a0, a1⟩ := ha
  obtain ⟨b0, b1⟩ := hb
  have ho : isTwo 17 := by unfold isTwo isSum; decide
  have h2 : two 17 a b = some (bits .xor .i32 a b) := by simp [two, sumV]
  have HX := Lib.hid (two_in HA.out HB.out h2)
  obtain ⟨f1, f2, f3⟩ := rk_some ho h2
  have HF1 := Lib.hid f1
  have HF2 := Lib.hid f2
  have HF3 := Lib.hid f3
  clear h2 f1 f2 f3 ho
  unfold Reck
  go_enter Try.func4, Try.ntmps4
  go_wp2_with (go_at_call 11; refine (KN.out _).mono ?_; rintro e wc ⟨rfl, hbc⟩; have HBC := Lib.hid hbc; clear hbc)
  have hrc := rd_new wc (codeCells (rcode a b 17)) 25 4 2 rfl (by decide)
  have HBA := Lib.hid (HBC.out.alloc HBC.out.size (.cells #[.int .i64 1, .int .i32 a, .int .i64 1, .int .i32 b, .int .i64 17, .int .i32 0, .int .i64 0, .int .i32 0] 25))
  refine (pnew_any _ _ _ 0 0 0 (.inl rfl) (rcode a b 17) [] (rcode_ok HA.out HB.out (by decide) (by decide)) (by simp [rcode]) (by simp) (by simp) (by omega) hrc (Rd.nil _ 1)).mono ?_
  rintro e w5 ⟨q, F, cv, mv, iv, rfl, hM, _, _, hb5⟩
  have HM := Lib.hid (show SM true w5 _ q F cv mv iv (.slice none 0 0) (.slice none 0 0) (.slice none 0 0) (rks a b 17) from hM)
  have HB5 := Lib.hid (HBA.out.trans (hb5.mono HBA.out.size))
  clear hM hb5 hrc
  go_wp2_with fail
  refine (prun_any HM.out 9 (by omega) (by omega) (by simp [rks])).mono ?_
  rintro e w6 ⟨v, he, ho, F', iv', sv', kv', ov', hM6, _, hmv⟩
  change e = .returned (.agg #[v, .int .i64 ((rks a b 17).stepN 9).fin, .int .i64 ((rks a b 17).stepN 9).trap]) at he
  change SM true w6 _ q F' cv mv iv' sv' kv' ov' ((rks a b 17).stepN 9) at hM6
  rw [HF1.out, HF3.out] at he
  subst he
  obtain ⟨va, vc, rfl, _, _, _⟩ := owns_shape ho
  have HB6 := Lib.hid (HB5.out.trans (HM.out.fr_below HBA.out.size hmv))
  have hop := fun O : Obj => pops_any (hM6.alloc O)
  rw [HF2.out] at hop
  have HOP := Lib.hid hop
  clear ho hM6 hmv hop
  go_wp2_with fail
  refine (HOP.out _).mono ?_; rintro e w8 ⟨v8, rfl, ho8, hb8⟩
  have rA := rd_of_owns ho8
  obtain ⟨a8, c8, rfl, _⟩ := owns_shape ho8
  have RA := Lib.hid rA
  have HB8 := Lib.hid ((HB6.out.alloc HB6.out.size _).trans (hb8.mono (HB6.out.alloc HB6.out.size _).size))
  clear rA ho8 hb8
  go_wp2_with fail
  refine (int32s_any _ _ _ 1 [bits .xor .i32 a b] (RA.out.below ((Below.refl _ _).alloc (Nat.le_refl _) _) (Nat.le_refl _)) (rd_new w8 (i32s [bits .xor .i32 a b]) 21 1 1 rfl (by decide)) (by omega)).mono ?_
  rintro e w9 ⟨rfl, hb9⟩
  have HB9 := Lib.hid ((HB8.out.alloc HB8.out.size _).trans (hb9.mono (HB8.out.alloc HB8.out.size _).size))
  clear hb9
  go_wp2_with fail
  go_ret
  exact ⟨rfl, HB9.out⟩
set_option maxHeartbeats 3200000 in
theorem rk6 (a b op : Int) (w : World) (ha : I32 a) (hb : I32 b) (h0 : 0 ≤ op) (h1 : op ≤ 255) (hr : op % 16 = 6) : Reck a b op w := by
  have KN := Lib.hid (fun W => known_any W)
  have eT : op.tmod 16 = 6 := by rw [Int.tmod_eq_emod_of_nonneg h0]; exact hr
  have HA := Lib.hid ha
  have HB := Lib.hid hb
  unfold I32 at ha hb
  obtain ⟨a0, a1⟩ := ha
  obtain ⟨b0, b1⟩ := hb
  have ho : isTwo 15 := by unfold isTwo isSum; decide
  have h2 : two 15 a b = some (bits .and .i32 a b) := by simp [two, sumV]
  have HX := Lib.hid (two_in HA.out HB.out h2)
  obtain ⟨f1, f2, f3⟩ := rk_some ho h2
  have HF1 := Lib.hid f1
  have HF2 := Lib.hid f2
  have HF3 := Lib.hid f3
  clear h2 f1 f2 f3 ho
  unfold Reck
  go_enter Try.func4, Try.ntmps4
  go_wp2_with (go_at_call 11; refine (KN.out _).mono ?_; rintro e wc ⟨rfl, hbc⟩; have HBC := Lib.hid hbc; clear hbc)
  have hrc := rd_new wc (codeCells (rcode a b 15)) 25 4 2 rfl (by decide)
  have HBA := Lib.hid (HBC.out.alloc HBC.out.size (.cells #[.int .i64 1, .int .i32 a, .int .i64 1, .int .i32 b, .int .i64 15, .int .i32 0, .int .i64 0, .int .i32 0] 25))
  refine (pnew_any _ _ _ 0 0 0 (.inl rfl) (rcode a b 15) [] (rcode_ok HA.out HB.out (by decide) (by decide)) (by simp [rcode]) (by simp) (by simp) (by omega) hrc (Rd.nil _ 1)).mono ?_
  rintro e w5 ⟨q, F, cv, mv, iv, rfl, hM, _, _, hb5⟩
  have HM := Lib.hid (show SM true w5 _ q F cv mv iv (.slice none 0 0) (.slice none 0 0) (.slice none 0 0) (rks a b 15) from hM)
  have HB5 := Lib.hid (HBA.out.trans (hb5.mono HBA.out.size))
  clear hM hb5 hrc
  go_wp2_with fail
  refine (prun_any HM.out 9 (by omega) (by omega) (by simp [rks])).mono ?_
  rintro e w6 ⟨v, he, ho, F', iv', sv', kv', ov', hM6, _, hmv⟩
  change e = .returned (.agg #[v, .int .i64 ((rks a b 15).stepN 9).fin, .int .i64 ((rks a b 15).stepN 9).trap]) at he
  change SM true w6 _ q F' cv mv iv' sv' kv' ov' ((rks a b 15).stepN 9) at hM6
  rw [HF1.out, HF3.out] at he
  subst he
  obtain ⟨va, vc, rfl, _, _, _⟩ := owns_shape ho
  have HB6 := Lib.hid (HB5.out.trans (HM.out.fr_below HBA.out.size hmv))
  have hop := fun O : Obj => pops_any (hM6.alloc O)
  rw [HF2.out] at hop
  have HOP := Lib.hid hop
  clear ho hM6 hmv hop
  go_wp2_with fail
  refine (HOP.out _).mono ?_; rintro e w8 ⟨v8, rfl, ho8, hb8⟩
  have rA := rd_of_owns ho8
  obtain ⟨a8, c8, rfl, _⟩ := owns_shape ho8
  have RA := Lib.hid rA
  have HB8 := Lib.hid ((HB6.out.alloc HB6.out.size _).trans (hb8.mono (HB6.out.alloc HB6.out.size _).size))
  clear rA ho8 hb8
  go_wp2_with fail
  refine (int32s_any _ _ _ 1 [bits .and .i32 a b] (RA.out.below ((Below.refl _ _).alloc (Nat.le_refl _) _) (Nat.le_refl _)) (rd_new w8 (i32s [bits .and .i32 a b]) 21 1 1 rfl (by decide)) (by omega)).mono ?_
  rintro e w9 ⟨rfl, hb9⟩
  have HB9 := Lib.hid ((HB8.out.alloc HB8.out.size _).trans (hb9.mono (HB8.out.alloc HB8.out.size _).size))
  clear hb9
  go_wp2_with fail
  go_ret
  exact ⟨rfl, HB9.out⟩
set_option maxHeartbeats 3200000 in
theorem rk7 (a b op : Int) (w : World) (ha : I32 a) (hb : I32 b) (h0 : 0 ≤ op) (h1 : op ≤ 255) (hr : op % 16 = 7) : Reck a b op w := by
  have KN := Lib.hid (fun W => known_any W)
  have eT : op.tmod 16 = 7 := by rw [Int.tmod_eq_emod_of_nonneg h0]; exact hr
  have HA := Lib.hid ha
  have HB := Lib.hid hb
  unfold I32 at ha hb
  obtain ⟨a0, a1⟩ := ha
  obtain ⟨b0, b1⟩ := hb
  have ho : isTwo 16 := by unfold isTwo isSum; decide
  have h2 : two 16 a b = some (bits .or .i32 a b) := by simp [two, sumV]
  have HX := Lib.hid (two_in HA.out HB.out h2)
  obtain ⟨f1, f2, f3⟩ := rk_some ho h2
  have HF1 := Lib.hid f1
  have HF2 := Lib.hid f2
  have HF3 := Lib.hid f3
  clear h2 f1 f2 f3 ho
  unfold Reck
  go_enter Try.func4, Try.ntmps4
  go_wp2_with (go_at_call 11; refine (KN.out _).mono ?_; rintro e wc ⟨rfl, hbc⟩; have HBC := Lib.hid hbc; clear hbc)
  have hrc := rd_new wc (codeCells (rcode a b 16)) 25 4 2 rfl (by decide)
  have HBA := Lib.hid (HBC.out.alloc HBC.out.size (.cells #[.int .i64 1, .int .i32 a, .int .i64 1, .int .i32 b, .int .i64 16, .int .i32 0, .int .i64 0, .int .i32 0] 25))
  refine (pnew_any _ _ _ 0 0 0 (.inl rfl) (rcode a b 16) [] (rcode_ok HA.out HB.out (by decide) (by decide)) (by simp [rcode]) (by simp) (by simp) (by omega) hrc (Rd.nil _ 1)).mono ?_
  rintro e w5 ⟨q, F, cv, mv, iv, rfl, hM, _, _, hb5⟩
  have HM := Lib.hid (show SM true w5 _ q F cv mv iv (.slice none 0 0) (.slice none 0 0) (.slice none 0 0) (rks a b 16) from hM)
  have HB5 := Lib.hid (HBA.out.trans (hb5.mono HBA.out.size))
  clear hM hb5 hrc
  go_wp2_with fail
  refine (prun_any HM.out 9 (by omega) (by omega) (by simp [rks])).mono ?_
  rintro e w6 ⟨v, he, ho, F', iv', sv', kv', ov', hM6, _, hmv⟩
  change e = .returned (.agg #[v, .int .i64 ((rks a b 16).stepN 9).fin, .int .i64 ((rks a b 16).stepN 9).trap]) at he
  change SM true w6 _ q F' cv mv iv' sv' kv' ov' ((rks a b 16).stepN 9) at hM6
  rw [HF1.out, HF3.out] at he
  subst he
  obtain ⟨va, vc, rfl, _, _, _⟩ := owns_shape ho
  have HB6 := Lib.hid (HB5.out.trans (HM.out.fr_below HBA.out.size hmv))
  have hop := fun O : Obj => pops_any (hM6.alloc O)
  rw [HF2.out] at hop
  have HOP := Lib.hid hop
  clear ho hM6 hmv hop
  go_wp2_with fail
  refine (HOP.out _).mono ?_; rintro e w8 ⟨v8, rfl, ho8, hb8⟩
  have rA := rd_of_owns ho8
  obtain ⟨a8, c8, rfl, _⟩ := owns_shape ho8
  have RA := Lib.hid rA
  have HB8 := Lib.hid ((HB6.out.alloc HB6.out.size _).trans (hb8.mono (HB6.out.alloc HB6.out.size _).size))
  clear rA ho8 hb8
  go_wp2_with fail
  refine (int32s_any _ _ _ 1 [bits .or .i32 a b] (RA.out.below ((Below.refl _ _).alloc (Nat.le_refl _) _) (Nat.le_refl _)) (rd_new w8 (i32s [bits .or .i32 a b]) 21 1 1 rfl (by decide)) (by omega)).mono ?_
  rintro e w9 ⟨rfl, hb9⟩
  have HB9 := Lib.hid ((HB8.out.alloc HB8.out.size _).trans (hb9.mono (HB8.out.alloc HB8.out.size _).size))
  clear hb9
  go_wp2_with fail
  go_ret
  exact ⟨rfl, HB9.out⟩
set_option maxHeartbeats 3200000 in
theorem rk8 (a b op : Int) (w : World) (ha : I32 a) (hb : I32 b) (h0 : 0 ≤ op) (h1 : op ≤ 255) (hr : op % 16 = 8) : Reck a b op w := by
  have KN := Lib.hid (fun W => known_any W)
  have eT : op.tmod 16 = 8 := by rw [Int.tmod_eq_emod_of_nonneg h0]; exact hr
  have HA := Lib.hid ha
  have HB := Lib.hid hb
  unfold I32 at ha hb
  obtain ⟨a0, a1⟩ := ha
  obtain ⟨b0, b1⟩ := hb
  have ho : isTwo 17 := by unfold isTwo isSum; decide
  have h2 : two 17 a b = some (bits .xor .i32 a b) := by simp [two, sumV]
  have HX := Lib.hid (two_in HA.out HB.out h2)
  obtain ⟨f1, f2, f3⟩ := rk_some ho h2
  have HF1 := Lib.hid f1
  have HF2 := Lib.hid f2
  have HF3 := Lib.hid f3
  clear h2 f1 f2 f3 ho
  unfold Reck
  go_enter Try.func4, Try.ntmps4
  go_wp2_with (go_at_call 11; refine (KN.out _).mono ?_; rintro e wc ⟨rfl, hbc⟩; have HBC := Lib.hid hbc; clear hbc)
  have hrc := rd_new wc (codeCells (rcode a b 17)) 25 4 2 rfl (by decide)
  have HBA := Lib.hid (HBC.out.alloc HBC.out.size (.cells #[.int .i64 1, .int .i32 a, .int .i64 1, .int .i32 b, .int .i64 17, .int .i32 0, .int .i64 0, .int .i32 0] 25))
  refine (pnew_any _ _ _ 0 0 0 (.inl rfl) (rcode a b 17) [] (rcode_ok HA.out HB.out (by decide) (by decide)) (by simp [rcode]) (by simp) (by simp) (by omega) hrc (Rd.nil _ 1)).mono ?_
  rintro e w5 ⟨q, F, cv, mv, iv, rfl, hM, _, _, hb5⟩
  have HM := Lib.hid (show SM true w5 _ q F cv mv iv (.slice none 0 0) (.slice none 0 0) (.slice none 0 0) (rks a b 17) from hM)
  have HB5 := Lib.hid (HBA.out.trans (hb5.mono HBA.out.size))
  clear hM hb5 hrc
  go_wp2_with fail
  refine (prun_any HM.out 9 (by omega) (by omega) (by simp [rks])).mono ?_
  rintro e w6 ⟨v, he, ho, F', iv', sv', kv', ov', hM6, _, hmv⟩
  change e = .returned (.agg #[v, .int .i64 ((rks a b 17).stepN 9).fin, .int .i64 ((rks a b 17).stepN 9).trap]) at he
  change SM true w6 _ q F' cv mv iv' sv' kv' ov' ((rks a b 17).stepN 9) at hM6
  rw [HF1.out, HF3.out] at he
  subst he
  obtain ⟨va, vc, rfl, _, _, _⟩ := owns_shape ho
  have HB6 := Lib.hid (HB5.out.trans (HM.out.fr_below HBA.out.size hmv))
  have hop := fun O : Obj => pops_any (hM6.alloc O)
  rw [HF2.out] at hop
  have HOP := Lib.hid hop
  clear ho hM6 hmv hop
  go_wp2_with fail
  refine (HOP.out _).mono ?_; rintro e w8 ⟨v8, rfl, ho8, hb8⟩
  have rA := rd_of_owns ho8
  obtain ⟨a8, c8, rfl, _⟩ := owns_shape ho8
  have RA := Lib.hid rA
  have HB8 := Lib.hid ((HB6.out.alloc HB6.out.size _).trans (hb8.mono (HB6.out.alloc HB6.out.size _).size))
  clear rA ho8 hb8
  go_wp2_with fail
  refine (int32s_any _ _ _ 1 [bits .xor .i32 a b] (RA.out.below ((Below.refl _ _).alloc (Nat.le_refl _) _) (Nat.le_refl _)) (rd_new w8 (i32s [bits .xor .i32 a b]) 21 1 1 rfl (by decide)) (by omega)).mono ?_
  rintro e w9 ⟨rfl, hb9⟩
  have HB9 := Lib.hid ((HB8.out.alloc HB8.out.size _).trans (hb9.mono (HB8.out.alloc HB8.out.size _).size))
  clear hb9
  go_wp2_with fail
  go_ret
  exact ⟨rfl, HB9.out⟩
set_option maxHeartbeats 3200000 in
theorem rk9 (a b op : Int) (w : World) (ha : I32 a) (hb : I32 b) (h0 : 0 ≤ op) (h1 : op ≤ 255) (hr : op % 16 = 9) : Reck a b op w := by
  have KN := Lib.hid (fun W => known_any W)
  have eT : op.tmod 16 = 9 := by rw [Int.tmod_eq_emod_of_nonneg h0]; exact hr
  have HA := Lib.hid ha
  have HB := Lib.hid hb
  unfold I32 at ha hb
  obtain ⟨a0, a1⟩ := ha
  obtain ⟨b0, b1⟩ := hb
  have ho : isTwo 17 := by unfold isTwo isSum; decide
  have h2 : two 17 a b = some (bits .xor .i32 a b) := by simp [two, sumV]
  have HX := Lib.hid (two_in HA.out HB.out h2)
  obtain ⟨f1, f2, f3⟩ := rk_some ho h2
  have HF1 := Lib.hid f1
  have HF2 := Lib.hid f2
  have HF3 := Lib.hid f3
  clear h2 f1 f2 f3 ho
  unfold Reck
  go_enter Try.func4, Try.ntmps4
  go_wp2_with (go_at_call 11; refine (KN.out _).mono ?_; rintro e wc ⟨rfl, hbc⟩; have HBC := Lib.hid hbc; clear hbc)
  have hrc := rd_new wc (codeCells (rcode a b 17)) 25 4 2 rfl (by decide)
  have HBA := Lib.hid (HBC.out.alloc HBC.out.size (.cells #[.int .i64 1, .int .i32 a, .int .i64 1, .int .i32 b, .int .i64 17, .int .i32 0, .int .i64 0, .int .i32 0] 25))
  refine (pnew_any _ _ _ 0 0 0 (.inl rfl) (rcode a b 17) [] (rcode_ok HA.out HB.out (by decide) (by decide)) (by simp [rcode]) (by simp) (by simp) (by omega) hrc (Rd.nil _ 1)).mono ?_
  rintro e w5 ⟨q, F, cv, mv, iv, rfl, hM, _, _, hb5⟩
  have HM := Lib.hid (show SM true w5 _ q F cv mv iv (.slice none 0 0) (.slice none 0 0) (.slice none 0 0) (rks a b 17) from hM)
  have HB5 := Lib.hid (HBA.out.trans (hb5.mono HBA.out.size))
  clear hM hb5 hrc
  go_wp2_with fail
  refine (prun_any HM.out 9 (by omega) (by omega) (by simp [rks])).mono ?_
  rintro e w6 ⟨v, he, ho, F', iv', sv', kv', ov', hM6, _, hmv⟩
  change e = .returned (.agg #[v, .int .i64 ((rks a b 17).stepN 9).fin, .int .i64 ((rks a b 17).stepN 9).trap]) at he
  change SM true w6 _ q F' cv mv iv' sv' kv' ov' ((rks a b 17).stepN 9) at hM6
  rw [HF1.out, HF3.out] at he
  subst he
  obtain ⟨va, vc, rfl, _, _, _⟩ := owns_shape ho
  have HB6 := Lib.hid (HB5.out.trans (HM.out.fr_below HBA.out.size hmv))
  have hop := fun O : Obj => pops_any (hM6.alloc O)
  rw [HF2.out] at hop
  have HOP := Lib.hid hop
  clear ho hM6 hmv hop
  go_wp2_with fail
  refine (HOP.out _).mono ?_; rintro e w8 ⟨v8, rfl, ho8, hb8⟩
  have rA := rd_of_owns ho8
  obtain ⟨a8, c8, rfl, _⟩ := owns_shape ho8
  have RA := Lib.hid rA
  have HB8 := Lib.hid ((HB6.out.alloc HB6.out.size _).trans (hb8.mono (HB6.out.alloc HB6.out.size _).size))
  clear rA ho8 hb8
  go_wp2_with fail
  refine (int32s_any _ _ _ 1 [bits .xor .i32 a b] (RA.out.below ((Below.refl _ _).alloc (Nat.le_refl _) _) (Nat.le_refl _)) (rd_new w8 (i32s [bits .xor .i32 a b]) 21 1 1 rfl (by decide)) (by omega)).mono ?_
  rintro e w9 ⟨rfl, hb9⟩
  have HB9 := Lib.hid ((HB8.out.alloc HB8.out.size _).trans (hb9.mono (HB8.out.alloc HB8.out.size _).size))
  clear hb9
  go_wp2_with fail
  go_ret
  exact ⟨rfl, HB9.out⟩
set_option maxHeartbeats 3200000 in
theorem rk10 (a b op : Int) (w : World) (ha : I32 a) (hb : I32 b) (h0 : 0 ≤ op) (h1 : op ≤ 255) (hr : op % 16 = 10) (x : Int) (hx : wrap32 (a * 2 ^ (b % 32).toNat) = x) : Reck a b op w := by
  have KN := Lib.hid (fun W => known_any W)
  have eT : op.tmod 16 = 10 := by rw [Int.tmod_eq_emod_of_nonneg h0]; exact hr
  have HA := Lib.hid ha
  have HB := Lib.hid hb
  unfold I32 at ha hb
  obtain ⟨a0, a1⟩ := ha
  obtain ⟨b0, b1⟩ := hb
  have ho : isTwo 19 := by unfold isTwo isSum; decide
  have h2 : two 19 a b = some (x) := by simp [two, sumV]; exact hx
  have HX := Lib.hid (two_in HA.out HB.out h2)
  obtain ⟨f1, f2, f3⟩ := rk_some ho h2
  have HF1 := Lib.hid f1
  have HF2 := Lib.hid f2
  have HF3 := Lib.hid f3
  have HXX := Lib.hid hx
  clear h2 f1 f2 f3 ho hx
  unfold Reck
  go_enter Try.func4, Try.ntmps4
  go_wp2_with (go_at_call 11; refine (KN.out _).mono ?_; rintro e wc ⟨rfl, hbc⟩; have HBC := Lib.hid hbc; clear hbc)
  have hrc := rd_new wc (codeCells (rcode a b 19)) 25 4 2 rfl (by decide)
  have HBA := Lib.hid (HBC.out.alloc HBC.out.size (.cells #[.int .i64 1, .int .i32 a, .int .i64 1, .int .i32 b, .int .i64 19, .int .i32 0, .int .i64 0, .int .i32 0] 25))
  refine (pnew_any _ _ _ 0 0 0 (.inl rfl) (rcode a b 19) [] (rcode_ok HA.out HB.out (by decide) (by decide)) (by simp [rcode]) (by simp) (by simp) (by omega) hrc (Rd.nil _ 1)).mono ?_
  rintro e w5 ⟨q, F, cv, mv, iv, rfl, hM, _, _, hb5⟩
  have HM := Lib.hid (show SM true w5 _ q F cv mv iv (.slice none 0 0) (.slice none 0 0) (.slice none 0 0) (rks a b 19) from hM)
  have HB5 := Lib.hid (HBA.out.trans (hb5.mono HBA.out.size))
  clear hM hb5 hrc
  go_wp2_with fail
  refine (prun_any HM.out 9 (by omega) (by omega) (by simp [rks])).mono ?_
  rintro e w6 ⟨v, he, ho, F', iv', sv', kv', ov', hM6, _, hmv⟩
  change e = .returned (.agg #[v, .int .i64 ((rks a b 19).stepN 9).fin, .int .i64 ((rks a b 19).stepN 9).trap]) at he
  change SM true w6 _ q F' cv mv iv' sv' kv' ov' ((rks a b 19).stepN 9) at hM6
  rw [HF1.out, HF3.out] at he
  subst he
  obtain ⟨va, vc, rfl, _, _, _⟩ := owns_shape ho
  have HB6 := Lib.hid (HB5.out.trans (HM.out.fr_below HBA.out.size hmv))
  have hop := fun O : Obj => pops_any (hM6.alloc O)
  rw [HF2.out] at hop
  have HOP := Lib.hid hop
  clear ho hM6 hmv hop
  go_wp2_with (go_at_call 17; refine (rlsl_any a b _).mono ?_; rw [HXX.out]; rintro e wz ⟨rfl, rfl⟩)
  refine (HOP.out _).mono ?_; rintro e w8 ⟨v8, rfl, ho8, hb8⟩
  have rA := rd_of_owns ho8
  obtain ⟨a8, c8, rfl, _⟩ := owns_shape ho8
  have RA := Lib.hid rA
  have HB8 := Lib.hid ((HB6.out.alloc HB6.out.size _).trans (hb8.mono (HB6.out.alloc HB6.out.size _).size))
  clear rA ho8 hb8
  go_wp2_with fail
  refine (int32s_any _ _ _ 1 [x] (RA.out.below ((Below.refl _ _).alloc (Nat.le_refl _) _) (Nat.le_refl _)) (rd_new w8 (i32s [x]) 21 1 1 rfl (by decide)) (by omega)).mono ?_
  rintro e w9 ⟨rfl, hb9⟩
  have HB9 := Lib.hid ((HB8.out.alloc HB8.out.size _).trans (hb9.mono (HB8.out.alloc HB8.out.size _).size))
  clear hb9
  go_wp2_with fail
  go_ret
  exact ⟨rfl, HB9.out⟩
set_option maxHeartbeats 3200000 in
theorem rk11 (a b op : Int) (w : World) (ha : I32 a) (hb : I32 b) (h0 : 0 ≤ op) (h1 : op ≤ 255) (hr : op % 16 = 11) (x : Int) (hx : a / 2 ^ (b % 32).toNat = x) : Reck a b op w := by
  have KN := Lib.hid (fun W => known_any W)
  have eT : op.tmod 16 = 11 := by rw [Int.tmod_eq_emod_of_nonneg h0]; exact hr
  have HA := Lib.hid ha
  have HB := Lib.hid hb
  unfold I32 at ha hb
  obtain ⟨a0, a1⟩ := ha
  obtain ⟨b0, b1⟩ := hb
  have ho : isTwo 20 := by unfold isTwo isSum; decide
  have h2 : two 20 a b = some (x) := by simp [two, sumV]; exact hx
  have HX := Lib.hid (two_in HA.out HB.out h2)
  obtain ⟨f1, f2, f3⟩ := rk_some ho h2
  have HF1 := Lib.hid f1
  have HF2 := Lib.hid f2
  have HF3 := Lib.hid f3
  have HXX := Lib.hid hx
  clear h2 f1 f2 f3 ho hx
  unfold Reck
  go_enter Try.func4, Try.ntmps4
  go_wp2_with (go_at_call 11; refine (KN.out _).mono ?_; rintro e wc ⟨rfl, hbc⟩; have HBC := Lib.hid hbc; clear hbc)
  have hrc := rd_new wc (codeCells (rcode a b 20)) 25 4 2 rfl (by decide)
  have HBA := Lib.hid (HBC.out.alloc HBC.out.size (.cells #[.int .i64 1, .int .i32 a, .int .i64 1, .int .i32 b, .int .i64 20, .int .i32 0, .int .i64 0, .int .i32 0] 25))
  refine (pnew_any _ _ _ 0 0 0 (.inl rfl) (rcode a b 20) [] (rcode_ok HA.out HB.out (by decide) (by decide)) (by simp [rcode]) (by simp) (by simp) (by omega) hrc (Rd.nil _ 1)).mono ?_
  rintro e w5 ⟨q, F, cv, mv, iv, rfl, hM, _, _, hb5⟩
  have HM := Lib.hid (show SM true w5 _ q F cv mv iv (.slice none 0 0) (.slice none 0 0) (.slice none 0 0) (rks a b 20) from hM)
  have HB5 := Lib.hid (HBA.out.trans (hb5.mono HBA.out.size))
  clear hM hb5 hrc
  go_wp2_with fail
  refine (prun_any HM.out 9 (by omega) (by omega) (by simp [rks])).mono ?_
  rintro e w6 ⟨v, he, ho, F', iv', sv', kv', ov', hM6, _, hmv⟩
  change e = .returned (.agg #[v, .int .i64 ((rks a b 20).stepN 9).fin, .int .i64 ((rks a b 20).stepN 9).trap]) at he
  change SM true w6 _ q F' cv mv iv' sv' kv' ov' ((rks a b 20).stepN 9) at hM6
  rw [HF1.out, HF3.out] at he
  subst he
  obtain ⟨va, vc, rfl, _, _, _⟩ := owns_shape ho
  have HB6 := Lib.hid (HB5.out.trans (HM.out.fr_below HBA.out.size hmv))
  have hop := fun O : Obj => pops_any (hM6.alloc O)
  rw [HF2.out] at hop
  have HOP := Lib.hid hop
  clear ho hM6 hmv hop
  go_wp2_with (go_at_call 18; refine (rasr_any a b _).mono ?_; rw [HXX.out]; rintro e wz ⟨rfl, rfl⟩)
  refine (HOP.out _).mono ?_; rintro e w8 ⟨v8, rfl, ho8, hb8⟩
  have rA := rd_of_owns ho8
  obtain ⟨a8, c8, rfl, _⟩ := owns_shape ho8
  have RA := Lib.hid rA
  have HB8 := Lib.hid ((HB6.out.alloc HB6.out.size _).trans (hb8.mono (HB6.out.alloc HB6.out.size _).size))
  clear rA ho8 hb8
  go_wp2_with fail
  refine (int32s_any _ _ _ 1 [x] (RA.out.below ((Below.refl _ _).alloc (Nat.le_refl _) _) (Nat.le_refl _)) (rd_new w8 (i32s [x]) 21 1 1 rfl (by decide)) (by omega)).mono ?_
  rintro e w9 ⟨rfl, hb9⟩
  have HB9 := Lib.hid ((HB8.out.alloc HB8.out.size _).trans (hb9.mono (HB8.out.alloc HB8.out.size _).size))
  clear hb9
  go_wp2_with fail
  go_ret
  exact ⟨rfl, HB9.out⟩
set_option maxHeartbeats 3200000 in
theorem rk12 (a b op : Int) (w : World) (ha : I32 a) (hb : I32 b) (h0 : 0 ≤ op) (h1 : op ≤ 255) (hr : op % 16 = 12) (x : Int) (hx : ror a b = x) : Reck a b op w := by
  have KN := Lib.hid (fun W => known_any W)
  have eT : op.tmod 16 = 12 := by rw [Int.tmod_eq_emod_of_nonneg h0]; exact hr
  have HA := Lib.hid ha
  have HB := Lib.hid hb
  unfold I32 at ha hb
  obtain ⟨a0, a1⟩ := ha
  obtain ⟨b0, b1⟩ := hb
  have ho : isTwo 21 := by unfold isTwo isSum; decide
  have h2 : two 21 a b = some (x) := by simp [two, sumV]; exact hx
  have HX := Lib.hid (two_in HA.out HB.out h2)
  obtain ⟨f1, f2, f3⟩ := rk_some ho h2
  have HF1 := Lib.hid f1
  have HF2 := Lib.hid f2
  have HF3 := Lib.hid f3
  have HXX := Lib.hid hx
  clear h2 f1 f2 f3 ho hx
  unfold Reck
  go_enter Try.func4, Try.ntmps4
  go_wp2_with (go_at_call 11; refine (KN.out _).mono ?_; rintro e wc ⟨rfl, hbc⟩; have HBC := Lib.hid hbc; clear hbc)
  have hrc := rd_new wc (codeCells (rcode a b 21)) 25 4 2 rfl (by decide)
  have HBA := Lib.hid (HBC.out.alloc HBC.out.size (.cells #[.int .i64 1, .int .i32 a, .int .i64 1, .int .i32 b, .int .i64 21, .int .i32 0, .int .i64 0, .int .i32 0] 25))
  refine (pnew_any _ _ _ 0 0 0 (.inl rfl) (rcode a b 21) [] (rcode_ok HA.out HB.out (by decide) (by decide)) (by simp [rcode]) (by simp) (by simp) (by omega) hrc (Rd.nil _ 1)).mono ?_
  rintro e w5 ⟨q, F, cv, mv, iv, rfl, hM, _, _, hb5⟩
  have HM := Lib.hid (show SM true w5 _ q F cv mv iv (.slice none 0 0) (.slice none 0 0) (.slice none 0 0) (rks a b 21) from hM)
  have HB5 := Lib.hid (HBA.out.trans (hb5.mono HBA.out.size))
  clear hM hb5 hrc
  go_wp2_with fail
  refine (prun_any HM.out 9 (by omega) (by omega) (by simp [rks])).mono ?_
  rintro e w6 ⟨v, he, ho, F', iv', sv', kv', ov', hM6, _, hmv⟩
  change e = .returned (.agg #[v, .int .i64 ((rks a b 21).stepN 9).fin, .int .i64 ((rks a b 21).stepN 9).trap]) at he
  change SM true w6 _ q F' cv mv iv' sv' kv' ov' ((rks a b 21).stepN 9) at hM6
  rw [HF1.out, HF3.out] at he
  subst he
  obtain ⟨va, vc, rfl, _, _, _⟩ := owns_shape ho
  have HB6 := Lib.hid (HB5.out.trans (HM.out.fr_below HBA.out.size hmv))
  have hop := fun O : Obj => pops_any (hM6.alloc O)
  rw [HF2.out] at hop
  have HOP := Lib.hid hop
  clear ho hM6 hmv hop
  go_wp2_with (go_at_call 19; refine (rror_any a b _).mono ?_; rw [HXX.out]; rintro e wz ⟨rfl, rfl⟩)
  refine (HOP.out _).mono ?_; rintro e w8 ⟨v8, rfl, ho8, hb8⟩
  have rA := rd_of_owns ho8
  obtain ⟨a8, c8, rfl, _⟩ := owns_shape ho8
  have RA := Lib.hid rA
  have HB8 := Lib.hid ((HB6.out.alloc HB6.out.size _).trans (hb8.mono (HB6.out.alloc HB6.out.size _).size))
  clear rA ho8 hb8
  go_wp2_with fail
  refine (int32s_any _ _ _ 1 [x] (RA.out.below ((Below.refl _ _).alloc (Nat.le_refl _) _) (Nat.le_refl _)) (rd_new w8 (i32s [x]) 21 1 1 rfl (by decide)) (by omega)).mono ?_
  rintro e w9 ⟨rfl, hb9⟩
  have HB9 := Lib.hid ((HB8.out.alloc HB8.out.size _).trans (hb9.mono (HB8.out.alloc HB8.out.size _).size))
  clear hb9
  go_wp2_with fail
  go_ret
  exact ⟨rfl, HB9.out⟩
set_option maxHeartbeats 3200000 in
theorem rk13 (a b op : Int) (w : World) (ha : I32 a) (hb : I32 b) (h0 : 0 ≤ op) (h1 : op ≤ 255) (hr : op % 16 = 13) (bb : Bool) (hx : (a == b) = bb) : Reck a b op w := by
  have KN := Lib.hid (fun W => known_any W)
  have eT : op.tmod 16 = 13 := by rw [Int.tmod_eq_emod_of_nonneg h0]; exact hr
  have HA := Lib.hid ha
  have HB := Lib.hid hb
  unfold I32 at ha hb
  obtain ⟨a0, a1⟩ := ha
  obtain ⟨b0, b1⟩ := hb
  have ho : isTwo 22 := by unfold isTwo isSum; decide
  have h2 : two 22 a b = some (tell bb) := by rw [← hx]; rfl
  have HX := Lib.hid (two_in HA.out HB.out h2)
  obtain ⟨f1, f2, f3⟩ := rk_some ho h2
  have HF1 := Lib.hid f1
  have HF2 := Lib.hid f2
  have HF3 := Lib.hid f3
  clear h2 f1 f2 f3 ho
  unfold Reck
  go_enter Try.func4, Try.ntmps4
  go_wp2_with (go_at_call 11; refine (KN.out _).mono ?_; rintro e wc ⟨rfl, hbc⟩; have HBC := Lib.hid hbc; clear hbc)
  have hrc := rd_new wc (codeCells (rcode a b 22)) 25 4 2 rfl (by decide)
  have HBA := Lib.hid (HBC.out.alloc HBC.out.size (.cells #[.int .i64 1, .int .i32 a, .int .i64 1, .int .i32 b, .int .i64 22, .int .i32 0, .int .i64 0, .int .i32 0] 25))
  refine (pnew_any _ _ _ 0 0 0 (.inl rfl) (rcode a b 22) [] (rcode_ok HA.out HB.out (by decide) (by decide)) (by simp [rcode]) (by simp) (by simp) (by omega) hrc (Rd.nil _ 1)).mono ?_
  rintro e w5 ⟨q, F, cv, mv, iv, rfl, hM, _, _, hb5⟩
  have HM := Lib.hid (show SM true w5 _ q F cv mv iv (.slice none 0 0) (.slice none 0 0) (.slice none 0 0) (rks a b 22) from hM)
  have HB5 := Lib.hid (HBA.out.trans (hb5.mono HBA.out.size))
  clear hM hb5 hrc
  go_wp2_with fail
  refine (prun_any HM.out 9 (by omega) (by omega) (by simp [rks])).mono ?_
  rintro e w6 ⟨v, he, ho, F', iv', sv', kv', ov', hM6, _, hmv⟩
  change e = .returned (.agg #[v, .int .i64 ((rks a b 22).stepN 9).fin, .int .i64 ((rks a b 22).stepN 9).trap]) at he
  change SM true w6 _ q F' cv mv iv' sv' kv' ov' ((rks a b 22).stepN 9) at hM6
  rw [HF1.out, HF3.out] at he
  subst he
  obtain ⟨va, vc, rfl, _, _, _⟩ := owns_shape ho
  have HB6 := Lib.hid (HB5.out.trans (HM.out.fr_below HBA.out.size hmv))
  have hop := fun O : Obj => pops_any (hM6.alloc O)
  rw [HF2.out] at hop
  have HOP := Lib.hid hop
  clear ho hM6 hmv hop
  go_wp2_with (go_at_call 20; refine (flag_any bb _).mono ?_; rintro e wz ⟨rfl, rfl⟩)
  refine (HOP.out _).mono ?_; rintro e w8 ⟨v8, rfl, ho8, hb8⟩
  have rA := rd_of_owns ho8
  obtain ⟨a8, c8, rfl, _⟩ := owns_shape ho8
  have RA := Lib.hid rA
  have HB8 := Lib.hid ((HB6.out.alloc HB6.out.size _).trans (hb8.mono (HB6.out.alloc HB6.out.size _).size))
  clear rA ho8 hb8
  go_wp2_with fail
  refine (int32s_any _ _ _ 1 [tell bb] (RA.out.below ((Below.refl _ _).alloc (Nat.le_refl _) _) (Nat.le_refl _)) (rd_new w8 (i32s [tell bb]) 21 1 1 rfl (by decide)) (by omega)).mono ?_
  rintro e w9 ⟨rfl, hb9⟩
  have HB9 := Lib.hid ((HB8.out.alloc HB8.out.size _).trans (hb9.mono (HB8.out.alloc HB8.out.size _).size))
  clear hb9
  go_wp2_with fail
  go_ret
  exact ⟨rfl, HB9.out⟩
set_option maxHeartbeats 3200000 in
theorem rk14 (a b op : Int) (w : World) (ha : I32 a) (hb : I32 b) (h0 : 0 ≤ op) (h1 : op ≤ 255) (hr : op % 16 = 14) (bb : Bool) (hx : (decide (a < b)) = bb) : Reck a b op w := by
  have KN := Lib.hid (fun W => known_any W)
  have eT : op.tmod 16 = 14 := by rw [Int.tmod_eq_emod_of_nonneg h0]; exact hr
  have HA := Lib.hid ha
  have HB := Lib.hid hb
  unfold I32 at ha hb
  obtain ⟨a0, a1⟩ := ha
  obtain ⟨b0, b1⟩ := hb
  have ho : isTwo 23 := by unfold isTwo isSum; decide
  have h2 : two 23 a b = some (tell bb) := by rw [← hx]; rfl
  have HX := Lib.hid (two_in HA.out HB.out h2)
  obtain ⟨f1, f2, f3⟩ := rk_some ho h2
  have HF1 := Lib.hid f1
  have HF2 := Lib.hid f2
  have HF3 := Lib.hid f3
  clear h2 f1 f2 f3 ho
  unfold Reck
  go_enter Try.func4, Try.ntmps4
  go_wp2_with (go_at_call 11; refine (KN.out _).mono ?_; rintro e wc ⟨rfl, hbc⟩; have HBC := Lib.hid hbc; clear hbc)
  have hrc := rd_new wc (codeCells (rcode a b 23)) 25 4 2 rfl (by decide)
  have HBA := Lib.hid (HBC.out.alloc HBC.out.size (.cells #[.int .i64 1, .int .i32 a, .int .i64 1, .int .i32 b, .int .i64 23, .int .i32 0, .int .i64 0, .int .i32 0] 25))
  refine (pnew_any _ _ _ 0 0 0 (.inl rfl) (rcode a b 23) [] (rcode_ok HA.out HB.out (by decide) (by decide)) (by simp [rcode]) (by simp) (by simp) (by omega) hrc (Rd.nil _ 1)).mono ?_
  rintro e w5 ⟨q, F, cv, mv, iv, rfl, hM, _, _, hb5⟩
  have HM := Lib.hid (show SM true w5 _ q F cv mv iv (.slice none 0 0) (.slice none 0 0) (.slice none 0 0) (rks a b 23) from hM)
  have HB5 := Lib.hid (HBA.out.trans (hb5.mono HBA.out.size))
  clear hM hb5 hrc
  go_wp2_with fail
  refine (prun_any HM.out 9 (by omega) (by omega) (by simp [rks])).mono ?_
  rintro e w6 ⟨v, he, ho, F', iv', sv', kv', ov', hM6, _, hmv⟩
  change e = .returned (.agg #[v, .int .i64 ((rks a b 23).stepN 9).fin, .int .i64 ((rks a b 23).stepN 9).trap]) at he
  change SM true w6 _ q F' cv mv iv' sv' kv' ov' ((rks a b 23).stepN 9) at hM6
  rw [HF1.out, HF3.out] at he
  subst he
  obtain ⟨va, vc, rfl, _, _, _⟩ := owns_shape ho
  have HB6 := Lib.hid (HB5.out.trans (HM.out.fr_below HBA.out.size hmv))
  have hop := fun O : Obj => pops_any (hM6.alloc O)
  rw [HF2.out] at hop
  have HOP := Lib.hid hop
  clear ho hM6 hmv hop
  go_wp2_with (go_at_call 20; refine (flag_any bb _).mono ?_; rintro e wz ⟨rfl, rfl⟩)
  refine (HOP.out _).mono ?_; rintro e w8 ⟨v8, rfl, ho8, hb8⟩
  have rA := rd_of_owns ho8
  obtain ⟨a8, c8, rfl, _⟩ := owns_shape ho8
  have RA := Lib.hid rA
  have HB8 := Lib.hid ((HB6.out.alloc HB6.out.size _).trans (hb8.mono (HB6.out.alloc HB6.out.size _).size))
  clear rA ho8 hb8
  go_wp2_with fail
  refine (int32s_any _ _ _ 1 [tell bb] (RA.out.below ((Below.refl _ _).alloc (Nat.le_refl _) _) (Nat.le_refl _)) (rd_new w8 (i32s [tell bb]) 21 1 1 rfl (by decide)) (by omega)).mono ?_
  rintro e w9 ⟨rfl, hb9⟩
  have HB9 := Lib.hid ((HB8.out.alloc HB8.out.size _).trans (hb9.mono (HB8.out.alloc HB8.out.size _).size))
  clear hb9
  go_wp2_with fail
  go_ret
  exact ⟨rfl, HB9.out⟩
set_option maxHeartbeats 3200000 in
theorem rk15 (a b op : Int) (w : World) (ha : I32 a) (hb : I32 b) (h0 : 0 ≤ op) (h1 : op ≤ 255) (hr : op % 16 = 15) (bb : Bool) (hx : (decide (a ≤ b)) = bb) : Reck a b op w := by
  have KN := Lib.hid (fun W => known_any W)
  have eT : op.tmod 16 = 15 := by rw [Int.tmod_eq_emod_of_nonneg h0]; exact hr
  have HA := Lib.hid ha
  have HB := Lib.hid hb
  unfold I32 at ha hb
  obtain ⟨a0, a1⟩ := ha
  obtain ⟨b0, b1⟩ := hb
  have ho : isTwo 24 := by unfold isTwo isSum; decide
  have h2 : two 24 a b = some (tell bb) := by rw [← hx]; rfl
  have HX := Lib.hid (two_in HA.out HB.out h2)
  obtain ⟨f1, f2, f3⟩ := rk_some ho h2
  have HF1 := Lib.hid f1
  have HF2 := Lib.hid f2
  have HF3 := Lib.hid f3
  clear h2 f1 f2 f3 ho
  unfold Reck
  go_enter Try.func4, Try.ntmps4
  go_wp2_with (go_at_call 11; refine (KN.out _).mono ?_; rintro e wc ⟨rfl, hbc⟩; have HBC := Lib.hid hbc; clear hbc)
  have hrc := rd_new wc (codeCells (rcode a b 24)) 25 4 2 rfl (by decide)
  have HBA := Lib.hid (HBC.out.alloc HBC.out.size (.cells #[.int .i64 1, .int .i32 a, .int .i64 1, .int .i32 b, .int .i64 24, .int .i32 0, .int .i64 0, .int .i32 0] 25))
  refine (pnew_any _ _ _ 0 0 0 (.inl rfl) (rcode a b 24) [] (rcode_ok HA.out HB.out (by decide) (by decide)) (by simp [rcode]) (by simp) (by simp) (by omega) hrc (Rd.nil _ 1)).mono ?_
  rintro e w5 ⟨q, F, cv, mv, iv, rfl, hM, _, _, hb5⟩
  have HM := Lib.hid (show SM true w5 _ q F cv mv iv (.slice none 0 0) (.slice none 0 0) (.slice none 0 0) (rks a b 24) from hM)
  have HB5 := Lib.hid (HBA.out.trans (hb5.mono HBA.out.size))
  clear hM hb5 hrc
  go_wp2_with fail
  refine (prun_any HM.out 9 (by omega) (by omega) (by simp [rks])).mono ?_
  rintro e w6 ⟨v, he, ho, F', iv', sv', kv', ov', hM6, _, hmv⟩
  change e = .returned (.agg #[v, .int .i64 ((rks a b 24).stepN 9).fin, .int .i64 ((rks a b 24).stepN 9).trap]) at he
  change SM true w6 _ q F' cv mv iv' sv' kv' ov' ((rks a b 24).stepN 9) at hM6
  rw [HF1.out, HF3.out] at he
  subst he
  obtain ⟨va, vc, rfl, _, _, _⟩ := owns_shape ho
  have HB6 := Lib.hid (HB5.out.trans (HM.out.fr_below HBA.out.size hmv))
  have hop := fun O : Obj => pops_any (hM6.alloc O)
  rw [HF2.out] at hop
  have HOP := Lib.hid hop
  clear ho hM6 hmv hop
  go_wp2_with (go_at_call 20; refine (flag_any bb _).mono ?_; rintro e wz ⟨rfl, rfl⟩)
  refine (HOP.out _).mono ?_; rintro e w8 ⟨v8, rfl, ho8, hb8⟩
  have rA := rd_of_owns ho8
  obtain ⟨a8, c8, rfl, _⟩ := owns_shape ho8
  have RA := Lib.hid rA
  have HB8 := Lib.hid ((HB6.out.alloc HB6.out.size _).trans (hb8.mono (HB6.out.alloc HB6.out.size _).size))
  clear rA ho8 hb8
  go_wp2_with fail
  refine (int32s_any _ _ _ 1 [tell bb] (RA.out.below ((Below.refl _ _).alloc (Nat.le_refl _) _) (Nat.le_refl _)) (rd_new w8 (i32s [tell bb]) 21 1 1 rfl (by decide)) (by omega)).mono ?_
  rintro e w9 ⟨rfl, hb9⟩
  have HB9 := Lib.hid ((HB8.out.alloc HB8.out.size _).trans (hb9.mono (HB8.out.alloc HB8.out.size _).size))
  clear hb9
  go_wp2_with fail
  go_ret
  exact ⟨rfl, HB9.out⟩
theorem stackReckons_any (a b op : Int) (w : World) (w0 : (Lit.int .i32 a).wf = true) (w1 : (Lit.int .i32 b).wf = true) (w2 : (Lit.int .u8 op).wf = true) :
    Calls Try.prog 4 #[.int .i32 a, .int .i32 b, .int .u8 op] w fun e w' => e = .returned (.bool true) ∧ Below w.heap.size w w' := by
  have ha : I32 a := rng_i32 w0
  have hb : I32 b := rng_i32 w1
  obtain ⟨h0, h1⟩ := rng_u8 w2
  rcases (by omega : op % 16 = 0 ∨ op % 16 = 1 ∨ op % 16 = 2 ∨ op % 16 = 3 ∨ op % 16 = 4 ∨ op % 16 = 5 ∨ op % 16 = 6 ∨ op % 16 = 7 ∨ op % 16 = 8 ∨ op % 16 = 9 ∨ op % 16 = 10 ∨ op % 16 = 11 ∨ op % 16 = 12 ∨ op % 16 = 13 ∨ op % 16 = 14 ∨ op % 16 = 15) with h | h | h | h | h | h | h | h | h | h | h | h | h | h | h | h
  · exact rk0 a b op w ha hb h0 h1 h
  · exact rk1 a b op w ha hb h0 h1 h
  · exact rk2 a b op w ha hb h0 h1 h
  · by_cases hd : 1 ≤ b
    · exact rk3 a b op w ha hb h0 h1 h hd
    · exact rk3n a b op w ha hb h0 h1 h hd
  · by_cases hd : 1 ≤ b
    · exact rk4 a b op w ha hb h0 h1 h hd
    · exact rk4n a b op w ha hb h0 h1 h hd
  · exact rk5 a b op w ha hb h0 h1 h
  · exact rk6 a b op w ha hb h0 h1 h
  · exact rk7 a b op w ha hb h0 h1 h
  · exact rk8 a b op w ha hb h0 h1 h
  · exact rk9 a b op w ha hb h0 h1 h
  · exact rk10 a b op w ha hb h0 h1 h _ rfl
  · exact rk11 a b op w ha hb h0 h1 h _ rfl
  · exact rk12 a b op w ha hb h0 h1 h _ rfl
  · exact rk13 a b op w ha hb h0 h1 h _ rfl
  · exact rk14 a b op w ha hb h0 h1 h _ rfl
  · exact rk15 a b op w ha hb h0 h1 h _ rfl
end Go.Proofs.Ytgkdphnhfjjepaa
