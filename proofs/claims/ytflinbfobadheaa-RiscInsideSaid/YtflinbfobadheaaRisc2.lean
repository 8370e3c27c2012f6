/- Contracts of package risc and of its reference: instructions and their words. -/
import Derived.Test.YtflinbfobadheaaRiscArith
import Derived.Test.YtflinbfobadheaaRisc1
import Derived.Deep.DeepCutAuto
import Derived.Deep.QuietTactic
import Derived.BigQuiet
import Derived.RegionTactic
import Derived.ChangeAlike
namespace Go.Proofs.Ytflinbfobadheaa
open Go.RowKit Go.Waf
set_option maxRecDepth 100000
set_option linter.unusedVariables false
attribute [local go_sem] mask15_u32 mask1_u32' mask16_u32 mask20_u32 mask24_u32

theorem field_0 (x : Int) (h0 : 0 ≤ x) (h1 : x < 4294967296) (w : World) : Calls Try.prog 45 #[.int .u32 x, .int .u64 0] w fun e w' => e = .returned (.int .i64 (cOf x)) ∧ w = w' := by
  go_enter Try.func45, Try.ntmps45
  go_wp2_with fail
  go_ret
  exact ⟨ret_int (by simp [cOf]), rfl⟩
theorem field_4 (x : Int) (h0 : 0 ≤ x) (h1 : x < 4294967296) (w : World) : Calls Try.prog 45 #[.int .u32 x, .int .u64 4] w fun e w' => e = .returned (.int .i64 (x / 16 % 16)) ∧ w = w' := by
  go_enter Try.func45, Try.ntmps45
  go_wp2_with fail
  go_ret
  exact ⟨ret_int (rfl), rfl⟩
theorem field_16 (x : Int) (h0 : 0 ≤ x) (h1 : x < 4294967296) (w : World) : Calls Try.prog 45 #[.int .u32 x, .int .u64 16] w fun e w' => e = .returned (.int .i64 (opOf x)) ∧ w = w' := by
  go_enter Try.func45, Try.ntmps45
  go_wp2_with fail
  go_ret
  exact ⟨ret_int (by simp [opOf]), rfl⟩
theorem field_20 (x : Int) (h0 : 0 ≤ x) (h1 : x < 4294967296) (w : World) : Calls Try.prog 45 #[.int .u32 x, .int .u64 20] w fun e w' => e = .returned (.int .i64 (bOf x)) ∧ w = w' := by
  go_enter Try.func45, Try.ntmps45
  go_wp2_with fail
  go_ret
  exact ⟨ret_int (by simp [bOf]), rfl⟩
theorem field_24 (x : Int) (h0 : 0 ≤ x) (h1 : x < 4294967296) (w : World) : Calls Try.prog 45 #[.int .u32 x, .int .u64 24] w fun e w' => e = .returned (.int .i64 (aOf x)) ∧ w = w' := by
  go_enter Try.func45, Try.ntmps45
  go_wp2_with fail
  go_ret
  exact ⟨ret_int (by simp [aOf]), rfl⟩
theorem extend_20 (x : Int) (h0 : 0 ≤ x) (h1 : x < 4294967296) (w : World) : Calls Try.prog 46 #[.int .u32 x, .int .u64 20] w fun e w' => e = .returned (.int .i32 (ext20 x)) ∧ w = w' := by
  have h := ext20_eq x h0 h1
  rw [← h]
  clear h
  go_enter Try.func46, Try.ntmps46
  go_wp2_with fail
  go_ret
  exact ⟨rfl, rfl⟩
theorem signed_20 (x : Int) (h0 : 0 ≤ x) (h1 : x < 4294967296) (w : World) : Calls Try.prog 57 #[.int .u32 x, .int .i64 20] w fun e w' => e = .returned (.int .i32 (ext20 x)) ∧ w = w' := by
  have h := ext20_eq x h0 h1
  rw [← h]
  clear h
  go_enter Try.func57, Try.ntmps57
  go_wp2_with fail
  go_ret
  exact ⟨rfl, rfl⟩
theorem extend_24 (x : Int) (h0 : 0 ≤ x) (h1 : x < 4294967296) (w : World) : Calls Try.prog 46 #[.int .u32 x, .int .u64 24] w fun e w' => e = .returned (.int .i32 (ext24 x)) ∧ w = w' := by
  have h := ext24_eq x h0 h1
  rw [← h]
  clear h
  go_enter Try.func46, Try.ntmps46
  go_wp2_with fail
  go_ret
  exact ⟨rfl, rfl⟩
theorem signed_24 (x : Int) (h0 : 0 ≤ x) (h1 : x < 4294967296) (w : World) : Calls Try.prog 57 #[.int .u32 x, .int .i64 24] w fun e w' => e = .returned (.int .i32 (ext24 x)) ∧ w = w' := by
  have h := ext24_eq x h0 h1
  rw [← h]
  clear h
  go_enter Try.func57, Try.ntmps57
  go_wp2_with fail
  go_ret
  exact ⟨rfl, rfl⟩
theorem fits_20 (n : Int) (h0 : -524288 ≤ n) (h1 : n < 524288) (w : World) : Calls Try.prog 73 #[.int .i32 n, .int .u64 20] w fun e w' => e = .returned (.bool true) ∧ w = w' := by
  go_enter Try.func73, Try.ntmps73
  go_wp2_with fail
  go_ret
  exact ⟨rfl, rfl⟩
theorem fits_24 (n : Int) (h0 : -8388608 ≤ n) (h1 : n < 8388608) (w : World) : Calls Try.prog 73 #[.int .i32 n, .int .u64 24] w fun e w' => e = .returned (.bool true) ∧ w = w' := by
  go_enter Try.func73, Try.ntmps73
  go_wp2_with fail
  go_ret
  exact ⟨rfl, rfl⟩
theorem bit_any (b : Bool) (w : World) : Calls Try.prog 66 #[.bool b] w fun e w' => e = .returned (.int .u32 (num b)) ∧ w = w' := by
  cases b
  all_goals
    go_enter Try.func66, Try.ntmps66
    go_wp2_with fail
    go_ret
    exact ⟨rfl, rfl⟩
theorem rbit_any (b : Bool) (w : World) : Calls Try.prog 37 #[.bool b] w fun e w' => e = .returned (.int .u32 (num b)) ∧ w = w' := by
  cases b
  all_goals
    go_enter Try.func37, Try.ntmps37
    go_wp2_with fail
    go_ret
    exact ⟨rfl, rfl⟩
theorem nib0 : nib 0 := ⟨by omega, by omega⟩
theorem nibble_yes (n : Int) (h : nib n) (w : World) : Calls Try.prog 72 #[.int .i64 n] w fun e w' => e = .returned (.bool true) ∧ w = w' := by
  obtain ⟨h0, h1⟩ := h
  go_enter Try.func72, Try.ntmps72
  go_wp2_with fail
  go_ret
  exact ⟨rfl, rfl⟩
theorem rin_yes (n a b : Int) (h0 : a ≤ n) (h1 : n ≤ b) (w : World) : Calls Try.prog 36 #[.int .i64 n, .int .i64 a, .int .i64 b] w fun e w' => e = .returned (.bool true) ∧ w = w' := by
  go_enter Try.func36, Try.ntmps36
  go_wp2_with fail
  go_ret
  exact ⟨rfl, rfl⟩
theorem bcell {W w1 : World} (hb : Below W.heap.size W w1) : (∀ b o, b < W.heap.size → w1.cell? ⟨b, o, none⟩ = W.cell? ⟨b, o, none⟩) ∧ (∀ b o, b < W.heap.size → w1.frozen? ⟨b, o, none⟩ = W.frozen? ⟨b, o, none⟩) :=
  ⟨fun b o h => hb.cell (p := ⟨b, o, none⟩) h, fun b o h => hb.frozen (p := ⟨b, o, none⟩) h⟩
theorem right_yes (i : Ins) (h : Right i) (w : World) : Calls Try.prog 65 #[insV i] w fun e w' => e = .returned (.bool true) ∧ Below w.heap.size w w' := by
  obtain ⟨f, u, v, a, b, c, op, imm⟩ := i
  obtain ⟨h1, h2, h3, h4, h5⟩ := h
  simp only [insV] at h1 h2 h3 h4 h5 ⊢
  have H1 := Lib.hid (fun W => nibble_yes a h1 W)
  have H2 := Lib.hid (fun W => nibble_yes b h2 W)
  have H3 := Lib.hid (fun W => nibble_yes c h3 W)
  have H4 := Lib.hid (fun W => nibble_yes op h4 W)
  clear h1 h2 h3 h4
  rcases h5 with ⟨rfl, rfl⟩ | ⟨rfl, rfl, p, q⟩ | ⟨rfl, rfl, rfl, p, q⟩ | ⟨rfl, rfl, rfl, rfl, rfl, p, q⟩ | ⟨rfl, rfl, rfl, rfl, p, q⟩
  · go_enter Try.func65, Try.ntmps65
    go_wp2_with fail
    refine (H1.out _).mono ?_; rintro e w1 ⟨rfl, rfl⟩
    go_wp2_with fail
    refine (H2.out _).mono ?_; rintro e w1 ⟨rfl, rfl⟩
    go_wp2_with fail
    refine (H3.out _).mono ?_; rintro e w1 ⟨rfl, rfl⟩
    go_wp2_with fail
    refine (H4.out _).mono ?_; rintro e w1 ⟨rfl, rfl⟩
    go_wp2_with fail
    go_ret
    exact ⟨rfl, (Below.refl _ _).alloc (Nat.le_refl _) _⟩
  · go_enter Try.func65, Try.ntmps65
    go_wp2_with fail
    refine (H1.out _).mono ?_; rintro e w1 ⟨rfl, rfl⟩
    go_wp2_with fail
    refine (H2.out _).mono ?_; rintro e w1 ⟨rfl, rfl⟩
    go_wp2_with fail
    refine (H3.out _).mono ?_; rintro e w1 ⟨rfl, rfl⟩
    go_wp2_with fail
    refine (H4.out _).mono ?_; rintro e w1 ⟨rfl, rfl⟩
    go_wp2_with fail
    go_ret
    exact ⟨rfl, (Below.refl _ _).alloc (Nat.le_refl _) _⟩
  · go_enter Try.func65, Try.ntmps65
    go_wp2_with fail
    refine (H1.out _).mono ?_; rintro e w1 ⟨rfl, rfl⟩
    go_wp2_with fail
    refine (H2.out _).mono ?_; rintro e w1 ⟨rfl, rfl⟩
    go_wp2_with fail
    refine (H3.out _).mono ?_; rintro e w1 ⟨rfl, rfl⟩
    go_wp2_with fail
    refine (H4.out _).mono ?_; rintro e w1 ⟨rfl, rfl⟩
    go_wp2_with fail
    refine (fits_20 _ p q _).mono ?_; rintro e w1 ⟨rfl, rfl⟩
    go_wp2_with fail
    go_ret
    exact ⟨rfl, (Below.refl _ _).alloc (Nat.le_refl _) _⟩
  · go_enter Try.func65, Try.ntmps65
    go_wp2_with fail
    refine (H1.out _).mono ?_; rintro e w1 ⟨rfl, rfl⟩
    go_wp2_with fail
    refine (H2.out _).mono ?_; rintro e w1 ⟨rfl, rfl⟩
    go_wp2_with fail
    refine (H3.out _).mono ?_; rintro e w1 ⟨rfl, rfl⟩
    go_wp2_with fail
    refine (H4.out _).mono ?_; rintro e w1 ⟨rfl, rfl⟩
    go_wp2_with fail
    refine (fits_24 _ p q _).mono ?_; rintro e w1 ⟨rfl, rfl⟩
    go_wp2_with fail
    go_ret
    exact ⟨rfl, (Below.refl _ _).alloc (Nat.le_refl _) _⟩
  · go_enter Try.func65, Try.ntmps65
    go_wp2_with fail
    refine (H1.out _).mono ?_; rintro e w1 ⟨rfl, rfl⟩
    go_wp2_with fail
    refine (H2.out _).mono ?_; rintro e w1 ⟨rfl, rfl⟩
    go_wp2_with fail
    refine (H3.out _).mono ?_; rintro e w1 ⟨rfl, rfl⟩
    go_wp2_with fail
    refine (H4.out _).mono ?_; rintro e w1 ⟨rfl, rfl⟩
    go_wp2_with fail
    go_ret
    exact ⟨rfl, (Below.refl _ _).alloc (Nat.le_refl _) _⟩
theorem ret2u {a b : Int} {x : Value} (h : a = b) : Ending.returned (.tuple #[.int .u32 a, x]) = .returned (.tuple #[.int .u32 b, x]) := by rw [h]

set_option maxHeartbeats 1600000 in
theorem enc_0 (u v : Bool) (a b c op : Int) (ha : nib a) (hb : nib b) (hc : nib c) (ho : nib op) (w : World) :
    Calls Try.prog 47 #[insV ⟨0, u, v, a, b, c, op, 0⟩] w fun e w' => e = .returned (.tuple #[.int .u32 (encW ⟨0, u, v, a, b, c, op, 0⟩), .int .i64 0]) ∧ Below w.heap.size w w' := by
  have HR := Lib.hid (fun W => right_yes ⟨0, u, v, a, b, c, op, 0⟩ ⟨ha, hb, hc, ho, .inl ⟨rfl, rfl⟩⟩ W)
  obtain ⟨ha0, ha1⟩ := ha
  obtain ⟨hb0, hb1⟩ := hb
  obtain ⟨hc0, hc1⟩ := hc
  obtain ⟨ho0, ho1⟩ := ho
  obtain ⟨V, hV⟩ : ∃ V, V = num v := ⟨_, rfl⟩
  obtain ⟨U, hU⟩ : ∃ U, U = num u := ⟨_, rfl⟩
  obtain ⟨u0, u1⟩ := num_in (u)
  obtain ⟨v0, v1⟩ := num_in (v)
  have cu := fun W => bit_any (u) W
  have cv := fun W => bit_any (v) W
  rw [← hU] at u0 u1 cu
  rw [← hV] at v0 v1 cv
  have HU := Lib.hid hU
  have HV := Lib.hid hV
  have CU := Lib.hid cu
  have CV := Lib.hid cv
  clear hU hV cu cv
  simp only [insV]
  go_enter Try.func47, Try.ntmps47
  go_wp2_with fail
  refine (HR.out _).mono ?_; rintro e w1 ⟨rfl, hb1⟩
  obtain ⟨k0, k1⟩ := bcell hb1
  go_wp2_with fail
  go_quiet ((first | (go_at_call 66; with_reducible exact quiet_left (CU.out _)) | (go_at_call 66; with_reducible exact quiet_left (CV.out _))))
  go_wp2_with fail
  go_ret2
  exact ⟨ret2u (by rw [HU.out, HV.out, encW_0, or_0 0 (num u) (num v) a b op c (by omega) (num_in u) (num_in v) (by omega) (by omega) (by omega) (by omega)]), below_drewN (((Below.refl _ _).alloc (Nat.le_refl _) _).trans (hb1.mono (by simp))) _⟩

set_option maxHeartbeats 1600000 in
theorem enc_1 (u v : Bool) (a b op m : Int) (ha : nib a) (hb : nib b) (ho : nib op) (m0 : 0 ≤ m) (m1 : m < 65536) (w : World) :
    Calls Try.prog 47 #[insV ⟨1, u, v, a, b, 0, op, m⟩] w fun e w' => e = .returned (.tuple #[.int .u32 (encW ⟨1, u, v, a, b, 0, op, m⟩), .int .i64 0]) ∧ Below w.heap.size w w' := by
  have HR := Lib.hid (fun W => right_yes ⟨1, u, v, a, b, 0, op, m⟩ ⟨ha, hb, nib0, ho, .inr (.inl ⟨rfl, rfl, m0, m1⟩)⟩ W)
  obtain ⟨ha0, ha1⟩ := ha
  obtain ⟨hb0, hb1⟩ := hb
  obtain ⟨ho0, ho1⟩ := ho
  obtain ⟨V, hV⟩ : ∃ V, V = num v := ⟨_, rfl⟩
  obtain ⟨U, hU⟩ : ∃ U, U = num u := ⟨_, rfl⟩
  obtain ⟨u0, u1⟩ := num_in (u)
  obtain ⟨v0, v1⟩ := num_in (v)
  have cu := fun W => bit_any (u) W
  have cv := fun W => bit_any (v) W
  rw [← hU] at u0 u1 cu
  rw [← hV] at v0 v1 cv
  have HU := Lib.hid hU
  have HV := Lib.hid hV
  have CU := Lib.hid cu
  have CV := Lib.hid cv
  clear hU hV cu cv
  simp only [insV]
  go_enter Try.func47, Try.ntmps47
  go_wp2_with fail
  refine (HR.out _).mono ?_; rintro e w1 ⟨rfl, hb1⟩
  obtain ⟨k0, k1⟩ := bcell hb1
  go_wp2_with fail
  go_quiet ((first | (go_at_call 66; with_reducible exact quiet_left (CU.out _)) | (go_at_call 66; with_reducible exact quiet_left (CV.out _))))
  go_wp2_with fail
  go_ret2
  exact ⟨ret2u (by rw [HU.out, HV.out, encW_1, or_0 1073741824 (num u) (num v) a b op m (by omega) (num_in u) (num_in v) (by omega) (by omega) (by omega) (by omega)]), below_drewN (((Below.refl _ _).alloc (Nat.le_refl _) _).trans (hb1.mono (by simp))) _⟩

set_option maxHeartbeats 1600000 in
theorem enc_2 (u v : Bool) (a b m : Int) (ha : nib a) (hb : nib b) (m0 : -524288 ≤ m) (m1 : m < 524288) (w : World) :
    Calls Try.prog 47 #[insV ⟨2, u, v, a, b, 0, 0, m⟩] w fun e w' => e = .returned (.tuple #[.int .u32 (encW ⟨2, u, v, a, b, 0, 0, m⟩), .int .i64 0]) ∧ Below w.heap.size w w' := by
  have HR := Lib.hid (fun W => right_yes ⟨2, u, v, a, b, 0, 0, m⟩ ⟨ha, hb, nib0, nib0, .inr (.inr (.inl ⟨rfl, rfl, rfl, m0, m1⟩))⟩ W)
  obtain ⟨ha0, ha1⟩ := ha
  obtain ⟨hb0, hb1⟩ := hb
  obtain ⟨V, hV⟩ : ∃ V, V = num v := ⟨_, rfl⟩
  obtain ⟨U, hU⟩ : ∃ U, U = num u := ⟨_, rfl⟩
  obtain ⟨u0, u1⟩ := num_in (u)
  obtain ⟨v0, v1⟩ := num_in (v)
  have cu := fun W => bit_any (u) W
  have cv := fun W => bit_any (v) W
  rw [← hU] at u0 u1 cu
  rw [← hV] at v0 v1 cv
  have HU := Lib.hid hU
  have HV := Lib.hid hV
  have CU := Lib.hid cu
  have CV := Lib.hid cv
  clear hU hV cu cv
  simp only [insV]
  go_enter Try.func47, Try.ntmps47
  go_wp2_with fail
  refine (HR.out _).mono ?_; rintro e w1 ⟨rfl, hb1⟩
  obtain ⟨k0, k1⟩ := bcell hb1
  go_wp2_with fail
  go_quiet ((first | (go_at_call 66; with_reducible exact quiet_left (CU.out _)) | (go_at_call 66; with_reducible exact quiet_left (CV.out _))))
  go_wp2_with fail
  go_ret2
  exact ⟨ret2u (by rw [HU.out, HV.out, encW_2, or_2 2147483648 (num u) (num v) a b (m % 1048576) (by omega) (num_in u) (num_in v) (by omega) (by omega) (by omega)]), below_drewN (((Below.refl _ _).alloc (Nat.le_refl _) _).trans (hb1.mono (by simp))) _⟩

set_option maxHeartbeats 1600000 in
theorem enc_3 (v : Bool) (a m : Int) (ha : nib a) (m0 : -8388608 ≤ m) (m1 : m < 8388608) (w : World) :
    Calls Try.prog 47 #[insV ⟨3, true, v, a, 0, 0, 0, m⟩] w fun e w' => e = .returned (.tuple #[.int .u32 (encW ⟨3, true, v, a, 0, 0, 0, m⟩), .int .i64 0]) ∧ Below w.heap.size w w' := by
  have HR := Lib.hid (fun W => right_yes ⟨3, true, v, a, 0, 0, 0, m⟩ ⟨ha, nib0, nib0, nib0, .inr (.inr (.inr (.inl ⟨rfl, rfl, rfl, rfl, rfl, m0, m1⟩)))⟩ W)
  obtain ⟨ha0, ha1⟩ := ha
  obtain ⟨V, hV⟩ : ∃ V, V = num v := ⟨_, rfl⟩
  obtain ⟨U, hU⟩ : ∃ U, U = num true := ⟨_, rfl⟩
  obtain ⟨u0, u1⟩ := num_in (true)
  obtain ⟨v0, v1⟩ := num_in (v)
  have cu := fun W => bit_any (true) W
  have cv := fun W => bit_any (v) W
  rw [← hU] at u0 u1 cu
  rw [← hV] at v0 v1 cv
  have HU := Lib.hid hU
  have HV := Lib.hid hV
  have CU := Lib.hid cu
  have CV := Lib.hid cv
  clear hU hV cu cv
  simp only [insV]
  go_enter Try.func47, Try.ntmps47
  go_wp2_with fail
  refine (HR.out _).mono ?_; rintro e w1 ⟨rfl, hb1⟩
  obtain ⟨k0, k1⟩ := bcell hb1
  go_wp2_with fail
  go_quiet ((first | (go_at_call 66; with_reducible exact quiet_left (CU.out _)) | (go_at_call 66; with_reducible exact quiet_left (CV.out _))))
  go_wp2_with fail
  go_ret2
  exact ⟨ret2u (by rw [HU.out, HV.out, encW_3, or_3 3221225472 (num true) (num v) a (m % 16777216) (by omega) (num_in true) (num_in v) (by omega) (by omega)]), below_drewN (((Below.refl _ _).alloc (Nat.le_refl _) _).trans (hb1.mono (by simp))) _⟩

set_option maxHeartbeats 1600000 in
theorem enc_4 (v : Bool) (a c m : Int) (ha : nib a) (hc : nib c) (m0 : 0 ≤ m) (m1 : m < 16) (w : World) :
    Calls Try.prog 47 #[insV ⟨3, false, v, a, 0, c, 0, m⟩] w fun e w' => e = .returned (.tuple #[.int .u32 (encW ⟨3, false, v, a, 0, c, 0, m⟩), .int .i64 0]) ∧ Below w.heap.size w w' := by
  have HR := Lib.hid (fun W => right_yes ⟨3, false, v, a, 0, c, 0, m⟩ ⟨ha, nib0, hc, nib0, .inr (.inr (.inr (.inr ⟨rfl, rfl, rfl, rfl, m0, m1⟩)))⟩ W)
  obtain ⟨ha0, ha1⟩ := ha
  obtain ⟨hc0, hc1⟩ := hc
  obtain ⟨V, hV⟩ : ∃ V, V = num v := ⟨_, rfl⟩
  obtain ⟨U, hU⟩ : ∃ U, U = num false := ⟨_, rfl⟩
  obtain ⟨u0, u1⟩ := num_in (false)
  obtain ⟨v0, v1⟩ := num_in (v)
  have cu := fun W => bit_any (false) W
  have cv := fun W => bit_any (v) W
  rw [← hU] at u0 u1 cu
  rw [← hV] at v0 v1 cv
  have HU := Lib.hid hU
  have HV := Lib.hid hV
  have CU := Lib.hid cu
  have CV := Lib.hid cv
  clear hU hV cu cv
  simp only [insV]
  go_enter Try.func47, Try.ntmps47
  go_wp2_with fail
  refine (HR.out _).mono ?_; rintro e w1 ⟨rfl, hb1⟩
  obtain ⟨k0, k1⟩ := bcell hb1
  go_wp2_with fail
  go_quiet ((first | (go_at_call 66; with_reducible exact quiet_left (CU.out _)) | (go_at_call 66; with_reducible exact quiet_left (CV.out _))))
  go_wp2_with fail
  go_ret2
  exact ⟨ret2u (by rw [HU.out, HV.out, encW_4, or_4 3221225472 (num false) (num v) a m c (by omega) (num_in false) (num_in v) (by omega) (by omega) (by omega)]), below_drewN (((Below.refl _ _).alloc (Nat.le_refl _) _).trans (hb1.mono (by simp))) _⟩
end Go.Proofs.Ytflinbfobadheaa
