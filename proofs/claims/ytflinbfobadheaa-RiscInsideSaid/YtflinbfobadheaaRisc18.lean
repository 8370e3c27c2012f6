/- The contracts of what the laws compare: results, machines, words. -/
import Derived.Test.YtflinbfobadheaaRisc14
namespace Go.Proofs.Ytflinbfobadheaa
open Go.RowKit Go.Waf
set_option maxRecDepth 100000
set_option linter.unusedVariables false

theorem conv_box (W : World) (v : Value) (xs : List Int) (h : Rd W 1 v xs.length (byt xs)) : (convert 22 9 v).run Try.prog W = .ok (.string (strOfNums xs)) W :=
  conv_rd Try.underlying22 Try.underlying5 Try.underlying9 h
set_option maxHeartbeats 800000 in
theorem hresult_any (w : World) (v1 v2 : Value) (xs : List Int) (f t : Int) (h1 : Rd w 1 v1 xs.length (byt xs)) (h2 : Rd w 1 v2 xs.length (byt xs)) :
    Calls Try.prog 16 #[.agg #[v1, .int .i64 f, .int .i64 t], .agg #[v2, .int .i64 f, .int .i64 t]] w fun e w' => e = .returned (.bool true) ∧ Below w.heap.size w w' := by
  have hb : ∀ O1 O2 : Obj, Below w.heap.size w ((w.alloc O1).alloc O2) := fun O1 O2 => ((Below.refl _ _).alloc (Nat.le_refl _) _).alloc (by simp) _
  have k1 := fun (O1 O2 : Obj) => conv_box _ v1 xs (h1.below (hb O1 O2) (Nat.le_refl _))
  have k2 := fun (O1 O2 : Obj) => conv_box _ v2 xs (h2.below (hb O1 O2) (Nat.le_refl _))
  have HB := Lib.hid hb
  obtain ⟨a1, c1, rfl, _, _, _⟩ := rd_shape h1
  obtain ⟨a2, c2, rfl, _, _, _⟩ := rd_shape h2
  clear h1 h2 hb
  go_enter Try.func16, Try.ntmps16
  go_wp2_with fail
  go_ret
  exact ⟨rfl, HB.out _ _⟩

section
variable {w : World} {B1 q1 B2 q2 : Nat} {F1 F2 : Nat → Prop} {cv1 mv1 iv1 ov1 cv2 mv2 iv2 ov2 : Value} {s : St}
theorem late5 {w w1 : World} {p : Addr} {v : Value} (h : w.cell? p = some v) (hb : Below w.heap.size w w1) : w1.cell? p = some v := (hb.cell (World.block_lt_of_cell? w p h)).trans h
theorem below_of_drewN {w : World} {n : Nat} : Below w.heap.size w (w.drewN n) := ⟨rfl, rfl, rfl, Nat.le_refl _, fun _ _ => rfl⟩
theorem below_pass {w w1 w2 : World} (h : Below w.heap.size w w1) (h2 : Below w1.heap.size w1 w2) : Below w.heap.size w w2 := h.trans (h2.mono h.size)
theorem below_drew2 {w w1 w2 : World} (h : Below w.heap.size w w1) (h2 : Below w1.drew.heap.size w1.drew w2) : Below w.heap.size w w2 := (h.drew).trans (h2.mono h.size)
set_option maxHeartbeats 3200000 in
theorem same_any (hm : Mach true w B1 q1 F1 cv1 mv1 iv1 ov1 s) (hr : Mach false w B2 q2 F2 cv2 mv2 iv2 ov2 s) (hol : s.out.length ≤ 2000000) :
    Calls Try.prog 26 #[.pointer (some ⟨q1, 0, none⟩), .pointer (some ⟨q2, 0, none⟩)] w fun e w' => e = .returned (.bool true) ∧ Below w.heap.size w w' := by
  have HM := Lib.hid hm
  have HR := Lib.hid hr
  clear hm hr
  go_enter Try.func26, Try.ntmps26
  go_wp2_with fail
  go_loop [5] (fun i => ∃ k : Nat, k ≤ 16 ∧ i = .int .i64 k) (fun i => 16 - (intOf i).toNat)
  case atStart => exact ⟨0, by omega, rfl⟩
  case round =>
    obtain ⟨k, hk, rfl⟩ := hrel
    by_cases hlt : k < 16
    · have c1 := HR.out.r_r k hlt
      have c2 := preg_any HM.out k hlt
      obtain ⟨X, hX⟩ : ∃ X, X = s.r.getD k 0 := ⟨_, rfl⟩
      rw [← hX] at c1 c2
      have C2 := Lib.hid c2
      have hk0 : (0 : Int) ≤ (k : Int) := by omega
      have hk1 : (k : Int) < 16 := by omega
      clear hX c2
      go_wp2_with (go_at_call 18; refine C2.out.mono ?_; rintro e w' ⟨rfl, rfl⟩)
      go_round
      case rel => exact ⟨k + 1, by omega, by go_num⟩
      case measure => simp [intOf]; omega
    · obtain rfl : k = 16 := by omega
      go_wp2_with fail
      refine (pflags_any HM.out).mono ?_
      rintro e w1 ⟨rfl, n, hw1⟩
      have hb1 : Below w.heap.size w w1 := by rw [hw1]; exact below_of_drewN
      have n1 := late5 HR.out.r_n hb1
      have n2 := late5 HR.out.r_z hb1
      have n3 := late5 HR.out.r_c hb1
      have n4 := late5 HR.out.r_v hb1
      have n5 := late5 HR.out.r_pc hb1
      have HM1 := Lib.hid (HM.out.below hb1)
      have HR1 := Lib.hid (HR.out.below hb1)
      have HB1 := Lib.hid hb1
      have hb0 : Below w1.heap.size w1 w1.drew := (Below.refl _ _).drew
      have M1 := Lib.hid (fun W (h : Below w1.heap.size w1 W) => HM1.out.below h)
      have R1 := Lib.hid (fun W (h : Below w1.heap.size w1 W) => HR1.out.below h)
      clear hw1 hb1
      go_wp2_with fail
      go_region_held3 (fun W => W.cell? ⟨q2, 19, none⟩ = some (.bool s.n) ∧ W.cell? ⟨q2, 20, none⟩ = some (.bool s.z) ∧ W.cell? ⟨q2, 21, none⟩ = some (.bool s.c) ∧ W.cell? ⟨q2, 22, none⟩ = some (.bool s.v) ∧ W.cell? ⟨q2, 23, none⟩ = some (.int .i64 s.pc))
        (first | (with_reducible exact ⟨d1, d2, d3, d4, d5⟩) | go_keep)
        ((first
          | (go_at_call 17; refine (ppc_any (M1.out _ hb0)).mono ?_; rintro e wz ⟨rfl, rfl⟩; have d1 := late5 n1 hb0; have d2 := late5 n2 hb0; have d3 := late5 n3 hb0; have d4 := late5 n4 hb0; have d5 := late5 n5 hb0)
          | (go_at_call 21; refine (presult_any (M1.out _ (by with_reducible first | exact hb0 | exact hbB)) hol).mono ?_; rintro e wa ⟨va, rfl, hoa, hba⟩; have rA := rd_of_owns hoa; obtain ⟨aa, ca, rfl, _, _, _⟩ := owns_shape hoa; have hbA := below_pass (by with_reducible first | exact hb0 | exact hbB) hba; have d1 := late5 n1 hbA; have d2 := late5 n2 hbA; have d3 := late5 n3 hbA; have d4 := late5 n4 hbA; have d5 := late5 n5 hbA)
          | (go_at_call 44; refine (rresult_any (R1.out _ (by with_reducible first | exact hb0 | exact hbA)) hol).mono ?_; rintro e wb ⟨vb, rfl, hob, hbb⟩; have rB := rd_of_owns hob; obtain ⟨ab, cb, rfl, _, _, _⟩ := owns_shape hob; have hbB := below_pass (by with_reducible first | exact hb0 | exact hbA) hbb; have d1 := late5 n1 hbB; have d2 := late5 n2 hbB; have d3 := late5 n3 hbB; have d4 := late5 n4 hbB; have d5 := late5 n5 hbB)
          | (go_at_call 16; refine (hresult_any _ _ _ s.out _ _ (by first | with_reducible exact rA | exact rA.below hbb (Nat.le_refl _)) (by first | with_reducible exact rB | exact rB.below hba (Nat.le_refl _))).mono ?_; rintro e wc ⟨rfl, hbc⟩; have hbC := below_pass (by with_reducible first | exact hbA | exact hbB) hbc; have d1 := late5 n1 hbC; have d2 := late5 n2 hbC; have d3 := late5 n3 hbC; have d4 := late5 n4 hbC; have d5 := late5 n5 hbC)))
      all_goals
        go_wp2_with fail
        go_ret
        exact ⟨rfl, below_pass HB1.out hbC⟩
set_option maxHeartbeats 1600000 in
theorem words_any (hm : Mach true w B1 q1 F1 cv1 mv1 iv1 ov1 s) (hr : Mach false w B2 q2 F2 cv2 mv2 iv2 ov2 s) :
    Calls Try.prog 27 #[.pointer (some ⟨q1, 0, none⟩), .pointer (some ⟨q2, 0, none⟩)] w fun e w' => e = .returned (.bool true) ∧ w = w' := by
  have cmv := hr.r_mv
  obtain ⟨a, cap, rfl, hn, hcap, _⟩ := owns_shape hr.mem
  unfold maxLen at hcap
  have hml := hr.fit.ml
  have hN := pword_none hm
  have hmem := hr.mem
  have hword := fun k hk => pword_any hm k hk
  obtain ⟨N, hNe⟩ : ∃ N, N = s.mem.length := ⟨_, rfl⟩
  rw [← hNe] at cmv hml hn hN hword hmem
  have HN := Lib.hid hN
  have HW := Lib.hid hword
  have HM := Lib.hid hmem
  have HNE := Lib.hid hNe
  clear hm hr hN hword hmem hNe
  go_enter Try.func27, Try.ntmps27
  go_wp2_with fail
  go_loop [5] (fun i => ∃ k : Nat, k ≤ N ∧ i = .int .i64 k) (fun i => N - (intOf i).toNat)
  case atStart => exact ⟨0, by omega, rfl⟩
  case round =>
    obtain ⟨k, hk, rfl⟩ := hrel
    by_cases hlt : k < N
    · obtain ⟨g, cap', he, _, _, _, _⟩ := owns_some HM.out (by omega)
      have cx := HM.out.cells (g := g) (by rw [he]; rfl) k _ (u32s_get s.mem k (by rw [← HNE.out]; exact hlt))
      rw [Addr.add_lit, Nat.zero_add] at cx
      injection he with ha _ _
      subst ha
      have c2 := HW.out k hlt
      obtain ⟨X, hX⟩ : ∃ X, X = s.mem.getD k 0 := ⟨_, rfl⟩
      rw [← hX] at cx c2
      have C2 := Lib.hid c2
      have hk0 : (0 : Int) ≤ (k : Int) := by omega
      have hk1 : (k : Int) < (N : Int) := by omega
      clear hX c2
      go_wp2_with (go_at_call 23; refine C2.out.mono ?_; rintro e w' ⟨rfl, rfl⟩)
      go_round
      case rel => exact ⟨k + 1, by omega, by go_num⟩
      case measure => simp [intOf]; omega
    · obtain rfl : k = N := by omega
      go_wp2_with (first
        | (go_at_call 23; refine HN.out.mono ?_; rintro e w' ⟨rfl, rfl⟩)
        | (go_at_call 18; refine (preg_none _ _).mono ?_; rintro e w' ⟨rfl, rfl⟩))
      go_ret
      exact ⟨rfl, rfl⟩
end
end Go.Proofs.Ytflinbfobadheaa
