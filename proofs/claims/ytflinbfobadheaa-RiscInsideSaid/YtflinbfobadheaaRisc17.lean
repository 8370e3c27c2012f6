/- The contracts of the reference's Encode, for instructions that may be. -/
import Derived.Test.YtflinbfobadheaaRisc4
import Derived.Deep.QuietTactic
import Derived.BigQuiet
namespace Go.Proofs.Ytflinbfobadheaa
open Go.RowKit Go.Waf
set_option maxRecDepth 100000
set_option linter.unusedVariables false
attribute [local go_sem] mask15_u32 mask1_u32' mask16_u32 mask20_u32 mask24_u32

theorem quiet_more {P : Program} {f : FuncId} {args : Array Value} {w : World} {a n : Nat} {v : Value}
    (h : Calls P f args (w.drewN (a + n)) fun e w' => e = .returned v ∧ w.drewN (a + n) = w') : Calls P f args (w.drewN (a + n)) fun e w'' => e = .returned v ∧ ∃ m, w'' = w.drewN (a + m) :=
  h.mono fun _ _ ⟨he, hm⟩ => ⟨he, n, hm.symm⟩

set_option maxHeartbeats 1600000 in
theorem renc_0 (u v : Bool) (a b c op : Int) (ha : nib a) (hb : nib b) (hc : nib c) (ho : nib op) (w : World) :
    Calls Try.prog 22 #[insV ⟨0, u, v, a, b, c, op, 0⟩] w fun e w' => e = .returned (.tuple #[.int .u32 (encW ⟨0, u, v, a, b, c, op, 0⟩), .bool true]) ∧ Below w.heap.size w w' := by
  obtain ⟨ha0, ha1⟩ := ha
  obtain ⟨hb0, hb1⟩ := hb
  obtain ⟨hc0, hc1⟩ := hc
  obtain ⟨ho0, ho1⟩ := ho
  obtain ⟨V, hV⟩ : ∃ V, V = num v := ⟨_, rfl⟩
  obtain ⟨U, hU⟩ : ∃ U, U = num u := ⟨_, rfl⟩
  obtain ⟨u0, u1⟩ := num_in u
  obtain ⟨v0, v1⟩ := num_in v
  have cu := fun W => rbit_any u W
  have cv := fun W => rbit_any v W
  rw [← hU] at u0 u1 cu
  rw [← hV] at v0 v1 cv
  have HU := Lib.hid hU
  have HV := Lib.hid hV
  have CU := Lib.hid cu
  have CV := Lib.hid cv
  have IN := Lib.hid (fun n a b h0 h1 W => rin_yes n a b h0 h1 W)
  clear hU hV cu cv
  simp only [insV]
  go_enter Try.func22, Try.ntmps22
  go_wp2_with (go_at_call 36; refine (IN.out _ _ _ (by omega) (by omega) _).mono ?_; rintro e w' ⟨rfl, rfl⟩)
  go_quiet ((first | (go_at_call 37; with_reducible exact quiet_left (CU.out _)) | (go_at_call 37; with_reducible exact quiet_left (CV.out _))))
  go_wp2_with (go_at_call 36; refine (IN.out _ _ _ (by omega) (by omega) _).mono ?_; rintro e w' ⟨rfl, rfl⟩)
  go_quiet ((go_at_call 36; with_reducible exact quiet_more (IN.out _ _ _ (by omega) (by omega) _)))
  go_wp2_with fail
  go_ret2
  exact ⟨ret2u (by rw [HU.out, HV.out, encW_0, or_0 0 (num u) (num v) a b op (c % 16) (by omega) (num_in u) (num_in v) (by omega) (by omega) (by omega) (by omega)]; omega), below_drewN (below_drewN (((Below.refl _ _).alloc (Nat.le_refl _) _)) _) _⟩

set_option maxHeartbeats 1600000 in
theorem renc_1 (u v : Bool) (a b op m : Int) (ha : nib a) (hb : nib b) (ho : nib op) (m0 : 0 ≤ m) (m1 : m < 65536) (w : World) :
    Calls Try.prog 22 #[insV ⟨1, u, v, a, b, 0, op, m⟩] w fun e w' => e = .returned (.tuple #[.int .u32 (encW ⟨1, u, v, a, b, 0, op, m⟩), .bool true]) ∧ Below w.heap.size w w' := by
  obtain ⟨ha0, ha1⟩ := ha
  obtain ⟨hb0, hb1⟩ := hb
  obtain ⟨ho0, ho1⟩ := ho
  obtain ⟨V, hV⟩ : ∃ V, V = num v := ⟨_, rfl⟩
  obtain ⟨U, hU⟩ : ∃ U, U = num u := ⟨_, rfl⟩
  obtain ⟨u0, u1⟩ := num_in u
  obtain ⟨v0, v1⟩ := num_in v
  have cu := fun W => rbit_any u W
  have cv := fun W => rbit_any v W
  rw [← hU] at u0 u1 cu
  rw [← hV] at v0 v1 cv
  have HU := Lib.hid hU
  have HV := Lib.hid hV
  have CU := Lib.hid cu
  have CV := Lib.hid cv
  have IN := Lib.hid (fun n a b h0 h1 W => rin_yes n a b h0 h1 W)
  clear hU hV cu cv
  simp only [insV]
  go_enter Try.func22, Try.ntmps22
  go_wp2_with (go_at_call 36; refine (IN.out _ _ _ (by omega) (by omega) _).mono ?_; rintro e w' ⟨rfl, rfl⟩)
  go_quiet ((first | (go_at_call 37; with_reducible exact quiet_left (CU.out _)) | (go_at_call 37; with_reducible exact quiet_left (CV.out _))))
  go_wp2_with (go_at_call 36; refine (IN.out _ _ _ (by omega) (by omega) _).mono ?_; rintro e w' ⟨rfl, rfl⟩)
  go_quiet ((go_at_call 36; with_reducible exact quiet_more (IN.out _ _ _ (by omega) (by omega) _)))
  go_wp2_with fail
  go_ret2
  exact ⟨ret2u (by rw [HU.out, HV.out, encW_1, or_0 1073741824 (num u) (num v) a b op (m % 65536) (by omega) (num_in u) (num_in v) (by omega) (by omega) (by omega) (by omega)]; omega), below_drewN (below_drewN (((Below.refl _ _).alloc (Nat.le_refl _) _)) _) _⟩

set_option maxHeartbeats 1600000 in
theorem renc_2 (u v : Bool) (a b m : Int) (ha : nib a) (hb : nib b) (m0 : -524288 ≤ m) (m1 : m < 524288) (w : World) :
    Calls Try.prog 22 #[insV ⟨2, u, v, a, b, 0, 0, m⟩] w fun e w' => e = .returned (.tuple #[.int .u32 (encW ⟨2, u, v, a, b, 0, 0, m⟩), .bool true]) ∧ Below w.heap.size w w' := by
  obtain ⟨ha0, ha1⟩ := ha
  obtain ⟨hb0, hb1⟩ := hb
  obtain ⟨V, hV⟩ : ∃ V, V = num v := ⟨_, rfl⟩
  obtain ⟨U, hU⟩ : ∃ U, U = num u := ⟨_, rfl⟩
  obtain ⟨u0, u1⟩ := num_in u
  obtain ⟨v0, v1⟩ := num_in v
  have cu := fun W => rbit_any u W
  have cv := fun W => rbit_any v W
  rw [← hU] at u0 u1 cu
  rw [← hV] at v0 v1 cv
  have HU := Lib.hid hU
  have HV := Lib.hid hV
  have CU := Lib.hid cu
  have CV := Lib.hid cv
  have IN := Lib.hid (fun n a b h0 h1 W => rin_yes n a b h0 h1 W)
  clear hU hV cu cv
  simp only [insV]
  go_enter Try.func22, Try.ntmps22
  go_wp2_with (go_at_call 36; refine (IN.out _ _ _ (by omega) (by omega) _).mono ?_; rintro e w' ⟨rfl, rfl⟩)
  go_quiet ((first | (go_at_call 37; with_reducible exact quiet_left (CU.out _)) | (go_at_call 37; with_reducible exact quiet_left (CV.out _))))
  go_wp2_with (go_at_call 36; refine (IN.out _ _ _ (by omega) (by omega) _).mono ?_; rintro e w' ⟨rfl, rfl⟩)
  go_quiet ((go_at_call 36; with_reducible exact quiet_more (IN.out _ _ _ (by omega) (by omega) _)))
  go_wp2_with fail
  go_ret2
  exact ⟨ret2u (by rw [HU.out, HV.out, encW_2, or_2 2147483648 (num u) (num v) a b (m % 1048576) (by omega) (num_in u) (num_in v) (by omega) (by omega) (by omega)]), below_drewN (below_drewN (((Below.refl _ _).alloc (Nat.le_refl _) _)) _) _⟩

set_option maxHeartbeats 1600000 in
theorem renc_3 (v : Bool) (a m : Int) (ha : nib a) (m0 : -8388608 ≤ m) (m1 : m < 8388608) (w : World) :
    Calls Try.prog 22 #[insV ⟨3, true, v, a, 0, 0, 0, m⟩] w fun e w' => e = .returned (.tuple #[.int .u32 (encW ⟨3, true, v, a, 0, 0, 0, m⟩), .bool true]) ∧ Below w.heap.size w w' := by
  obtain ⟨ha0, ha1⟩ := ha
  obtain ⟨V, hV⟩ : ∃ V, V = num v := ⟨_, rfl⟩
  obtain ⟨U, hU⟩ : ∃ U, U = num true := ⟨_, rfl⟩
  obtain ⟨u0, u1⟩ := num_in true
  obtain ⟨v0, v1⟩ := num_in v
  have cu := fun W => rbit_any true W
  have cv := fun W => rbit_any v W
  rw [← hU] at u0 u1 cu
  rw [← hV] at v0 v1 cv
  have HU := Lib.hid hU
  have HV := Lib.hid hV
  have CU := Lib.hid cu
  have CV := Lib.hid cv
  have IN := Lib.hid (fun n a b h0 h1 W => rin_yes n a b h0 h1 W)
  clear hU hV cu cv
  simp only [insV]
  go_enter Try.func22, Try.ntmps22
  go_wp2_with (go_at_call 36; refine (IN.out _ _ _ (by omega) (by omega) _).mono ?_; rintro e w' ⟨rfl, rfl⟩)
  go_quiet ((first | (go_at_call 37; with_reducible exact quiet_left (CU.out _)) | (go_at_call 37; with_reducible exact quiet_left (CV.out _))))
  go_wp2_with (go_at_call 36; refine (IN.out _ _ _ (by omega) (by omega) _).mono ?_; rintro e w' ⟨rfl, rfl⟩)
  go_quiet ((go_at_call 36; with_reducible exact quiet_more (IN.out _ _ _ (by omega) (by omega) _)))
  go_wp2_with fail
  go_ret2
  exact ⟨ret2u (by rw [HU.out, HV.out, encW_3, or_3 3221225472 (num true) (num v) a (m % 16777216) (by omega) (num_in true) (num_in v) (by omega) (by omega)]), below_drewN (below_drewN (((Below.refl _ _).alloc (Nat.le_refl _) _)) _) _⟩

set_option maxHeartbeats 1600000 in
theorem renc_4 (v : Bool) (a c m : Int) (ha : nib a) (hc : nib c) (m0 : 0 ≤ m) (m1 : m < 16) (w : World) :
    Calls Try.prog 22 #[insV ⟨3, false, v, a, 0, c, 0, m⟩] w fun e w' => e = .returned (.tuple #[.int .u32 (encW ⟨3, false, v, a, 0, c, 0, m⟩), .bool true]) ∧ Below w.heap.size w w' := by
  obtain ⟨ha0, ha1⟩ := ha
  obtain ⟨hc0, hc1⟩ := hc
  obtain ⟨V, hV⟩ : ∃ V, V = num v := ⟨_, rfl⟩
  obtain ⟨U, hU⟩ : ∃ U, U = num false := ⟨_, rfl⟩
  obtain ⟨u0, u1⟩ := num_in false
  obtain ⟨v0, v1⟩ := num_in v
  have cu := fun W => rbit_any false W
  have cv := fun W => rbit_any v W
  rw [← hU] at u0 u1 cu
  rw [← hV] at v0 v1 cv
  have HU := Lib.hid hU
  have HV := Lib.hid hV
  have CU := Lib.hid cu
  have CV := Lib.hid cv
  have IN := Lib.hid (fun n a b h0 h1 W => rin_yes n a b h0 h1 W)
  clear hU hV cu cv
  simp only [insV]
  go_enter Try.func22, Try.ntmps22
  go_wp2_with (go_at_call 36; refine (IN.out _ _ _ (by omega) (by omega) _).mono ?_; rintro e w' ⟨rfl, rfl⟩)
  go_quiet ((first | (go_at_call 37; with_reducible exact quiet_left (CU.out _)) | (go_at_call 37; with_reducible exact quiet_left (CV.out _))))
  go_wp2_with (go_at_call 36; refine (IN.out _ _ _ (by omega) (by omega) _).mono ?_; rintro e w' ⟨rfl, rfl⟩)
  go_quiet ((go_at_call 36; with_reducible exact quiet_more (IN.out _ _ _ (by omega) (by omega) _)))
  go_wp2_with fail
  go_ret2
  exact ⟨ret2u (by rw [HU.out, HV.out, encW_4, or_4 3221225472 (num false) (num v) a (m % 16) (c % 16) (by omega) (num_in false) (num_in v) (by omega) (by omega) (by omega)]; omega), below_drewN (below_drewN (((Below.refl _ _).alloc (Nat.le_refl _) _)) _) _⟩

theorem renc_any (i : Ins) (h : Right i) (w : World) :
    Calls Try.prog 22 #[insV i] w fun e w' => e = .returned (.tuple #[.int .u32 (encW i), .bool true]) ∧ Below w.heap.size w w' := by
  obtain ⟨f, u, v, a, b, c, op, imm⟩ := i
  obtain ⟨ha, hb, hc, ho, h5⟩ := h
  simp only at ha hb hc ho h5
  rcases h5 with ⟨rfl, rfl⟩ | ⟨rfl, rfl, h1, h2⟩ | ⟨rfl, rfl, rfl, h1, h2⟩ | ⟨rfl, rfl, rfl, rfl, rfl, h1, h2⟩ | ⟨rfl, rfl, rfl, rfl, h1, h2⟩
  · exact renc_0 u v a b c op ha hb hc ho w
  · exact renc_1 u v a b op imm ha hb ho h1 h2 w
  · exact renc_2 u v a b imm ha hb h1 h2 w
  · exact renc_3 v a imm ha h1 h2 w
  · exact renc_4 v a c imm ha hc h1 h2 w
end Go.Proofs.Ytflinbfobadheaa
