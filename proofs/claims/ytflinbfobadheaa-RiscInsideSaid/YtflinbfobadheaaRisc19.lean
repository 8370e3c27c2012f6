/- The contract of the law's instructions of few numbers: each is some word. -/
import Derived.Test.YtflinbfobadheaaRisc17
import Derived.Deep.RegionHeld3
namespace Go.Proofs.Ytflinbfobadheaa
open Go.RowKit Go.Waf
set_option maxRecDepth 100000
set_option linter.unusedVariables false
theorem mask3_u8 (x : Int) : bits .and .u8 x 3 = x % 4 := mask .u8 2 (by decide) (by decide) x
theorem mask15_u8 (x : Int) : bits .and .u8 x 15 = x % 16 := mask .u8 4 (by decide) (by decide) x
theorem mask15_i16 (x : Int) : bits .and .i16 x 15 = x % 16 := mask .i16 4 (by decide) (by decide) x
theorem mask1_i16 (x : Int) : bits .and .i16 x 1 = x % 2 := mask .i16 1 (by decide) (by decide) x
attribute [local go_sem] mask3_u8 mask15_u8 mask15_i16 mask1_i16
def WordPost (w : World) (e : Ending) (w' : World) : Prop := ∃ x, W32 x ∧ e = .returned (.int .u32 x) ∧ Below w.heap.size w w'
theorem u16_mod (n : Int) : IntKind.u16.wrap n = n % 65536 := by simp [IntKind.wrap, IntKind.bits, IntKind.signed]
theorem tmod8 (M : Int) : -8 < M.tmod 8 ∧ M.tmod 8 < 8 := ⟨by have := Int.lt_tmod_of_pos M (b := 8) (by omega); omega, Int.tmod_lt_of_pos M (by omega)⟩
theorem tmod6 (M : Int) : -6 < M.tmod 6 ∧ M.tmod 6 < 6 := ⟨by have := Int.lt_tmod_of_pos M (b := 6) (by omega); omega, Int.tmod_lt_of_pos M (by omega)⟩
theorem right0 {u v : Bool} {a b c op : Int} (ha : 0 ≤ a ∧ a < 16) (hb : 0 ≤ b ∧ b < 16) (hc : 0 ≤ c ∧ c < 16) (ho : 0 ≤ op ∧ op < 16) : Right ⟨0, u, v, a, b, c, op, 0⟩ := ⟨ha, hb, hc, ho, .inl ⟨rfl, rfl⟩⟩
theorem right1 {u v : Bool} {a b op m : Int} (ha : 0 ≤ a ∧ a < 16) (hb : 0 ≤ b ∧ b < 16) (ho : 0 ≤ op ∧ op < 16) (h0 : 0 ≤ m) (h1 : m < 65536) : Right ⟨1, u, v, a, b, 0, op, m⟩ := ⟨ha, hb, nib0, ho, .inr (.inl ⟨rfl, rfl, h0, h1⟩)⟩
theorem right2 {u v : Bool} {a b m : Int} (ha : 0 ≤ a ∧ a < 16) (hb : 0 ≤ b ∧ b < 16) (h0 : -524288 ≤ m) (h1 : m < 524288) : Right ⟨2, u, v, a, b, 0, 0, m⟩ := ⟨ha, hb, nib0, nib0, .inr (.inr (.inl ⟨rfl, rfl, rfl, h0, h1⟩))⟩
theorem right3 {v : Bool} {a m : Int} (ha : 0 ≤ a ∧ a < 16) (h0 : -8388608 ≤ m) (h1 : m < 8388608) : Right ⟨3, true, v, a, 0, 0, 0, m⟩ := ⟨ha, nib0, nib0, nib0, .inr (.inr (.inr (.inl ⟨rfl, rfl, rfl, rfl, rfl, h0, h1⟩)))⟩
theorem right4 {v : Bool} {a c m : Int} (ha : 0 ≤ a ∧ a < 16) (hc : 0 ≤ c ∧ c < 16) (h0 : 0 ≤ m) (h1 : m < 16) : Right ⟨3, false, v, a, 0, c, 0, m⟩ := ⟨ha, nib0, hc, nib0, .inr (.inr (.inr (.inr ⟨rfl, rfl, rfl, rfl, h0, h1⟩)))⟩
theorem word_below0 {w w2 : World} {O1 O2 : Obj} (h : Below ((w.alloc O1).alloc O2).heap.size ((w.alloc O1).alloc O2) w2) : Below w.heap.size w w2 :=
  (((Below.refl w.heap.size w).alloc (Nat.le_refl _) O1).alloc (by simp) O2).trans (h.mono (by simp; omega))
theorem word_below2 {w w2 : World} {O1 O2 : Obj} (h : Below (((w.alloc O1).alloc O2).drew.drew).heap.size (((w.alloc O1).alloc O2).drew.drew) w2) : Below w.heap.size w w2 :=
  (((((Below.refl w.heap.size w).alloc (Nat.le_refl _) O1).alloc (by simp) O2).drew).drew).trans (h.mono (by simp [World.drew]; omega))
theorem word_below {w w2 : World} {O1 O2 : Obj} (h : Below (((w.alloc O1).alloc O2).drew).heap.size (((w.alloc O1).alloc O2).drew) w2) : Below w.heap.size w w2 :=
  ((((Below.refl w.heap.size w).alloc (Nat.le_refl _) O1).alloc (by simp) O2).drew).trans (h.mono (by simp [World.drew]; omega))
set_option maxHeartbeats 3200000 in
theorem word_0 (F A B C O M : Int) (U V : Bool) (hF0 : 0 ≤ F) (hF1 : F ≤ 255) (hA0 : 0 ≤ A) (hA1 : A ≤ 255) (hB0 : 0 ≤ B) (hB1 : B ≤ 255) (hC0 : 0 ≤ C) (hC1 : C ≤ 255) (hO0 : 0 ≤ O) (hO1 : O ≤ 255) (hM0 : -32768 ≤ M) (hM1 : M ≤ 32767) (hf : F % 4 = 0) (w : World) :
    Calls Try.prog 15 #[.agg #[.int .u8 F, .int .u8 A, .int .u8 B, .int .u8 C, .int .u8 O, .bool U, .bool V, .int .i16 M]] w (WordPost w) := by
  have hE := fun W => renc_any ⟨0, U, V, A % 16, B % 16, C % 16, O % 12, 0⟩ (right0 (by omega) (by omega) (by omega) (by omega)) W
  have hI := enc_in ⟨0, U, V, A % 16, B % 16, C % 16, O % 12, 0⟩ (right0 (by omega) (by omega) (by omega) (by omega))
  obtain ⟨X, hX⟩ : ∃ X, X = encW ⟨0, U, V, A % 16, B % 16, C % 16, O % 12, 0⟩ := ⟨_, rfl⟩
  rw [← hX] at hE hI
  simp only [insV] at hE
  have HE := Lib.hid hE
  have HI := Lib.hid hI
  clear hE hI hX
  have eB : IntKind.i64.wrap (B % 16) = B % 16 := IntWalk.i64_in _ (by omega)
  have eC : IntKind.i64.wrap (C % 16) = C % 16 := IntWalk.i64_in _ (by omega)
  have eT : O.tmod 12 = O % 12 := Int.tmod_eq_emod_of_nonneg (by omega)
  have eO : IntKind.i64.wrap (O % 12) = O % 12 := IntWalk.i64_in _ (by omega)
  go_enter Try.func15, Try.ntmps15
  go_wp2_with fail
  go_region_held3 (fun W => W.cell? ⟨w.heap.size, 2, none⟩ = some (.int .u8 B) ∧ W.cell? ⟨w.heap.size, 4, none⟩ = some (.int .u8 O) ∧ W.cell? ⟨w.heap.size, 3, none⟩ = some (.int .u8 C)) (go_keep) (fail)
  go_wp2_with (go_at_call 22; refine (HE.out _).mono ?_; rintro e w2 ⟨rfl, hb⟩)
  go_ret
  exact ⟨X, ⟨HI.out.1, HI.out.2⟩, rfl, by with_reducible first | exact word_below hb | exact word_below2 hb | exact word_below0 hb⟩

set_option maxHeartbeats 3200000 in
theorem word_1a (F A B C O M : Int) (U V : Bool) (hF0 : 0 ≤ F) (hF1 : F ≤ 255) (hA0 : 0 ≤ A) (hA1 : A ≤ 255) (hB0 : 0 ≤ B) (hB1 : B ≤ 255) (hC0 : 0 ≤ C) (hC1 : C ≤ 255) (hO0 : 0 ≤ O) (hO1 : O ≤ 255) (hM0 : -32768 ≤ M) (hM1 : M ≤ 32767) (hf : F % 4 = 1) (hM : M ≤ 0) (w : World) :
    Calls Try.prog 15 #[.agg #[.int .u8 F, .int .u8 A, .int .u8 B, .int .u8 C, .int .u8 O, .bool U, .bool V, .int .i16 M]] w (WordPost w) := by
  have hE := fun W => renc_any ⟨1, U, V, A % 16, B % 16, 0, O % 12, M % 65536⟩ (right1 (by omega) (by omega) (by omega) (by omega) (by omega)) W
  have hI := enc_in ⟨1, U, V, A % 16, B % 16, 0, O % 12, M % 65536⟩ (right1 (by omega) (by omega) (by omega) (by omega) (by omega))
  obtain ⟨X, hX⟩ : ∃ X, X = encW ⟨1, U, V, A % 16, B % 16, 0, O % 12, M % 65536⟩ := ⟨_, rfl⟩
  rw [← hX] at hE hI
  simp only [insV] at hE
  have HE := Lib.hid hE
  have HI := Lib.hid hI
  clear hE hI hX
  have eB : IntKind.i64.wrap (B % 16) = B % 16 := IntWalk.i64_in _ (by omega)
  have eT : O.tmod 12 = O % 12 := Int.tmod_eq_emod_of_nonneg (by omega)
  have eO : IntKind.i64.wrap (O % 12) = O % 12 := IntWalk.i64_in _ (by omega)
  have eM : IntKind.u16.wrap M = M % 65536 := u16_mod M
  have eN : IntKind.i32.wrap (M % 65536) = M % 65536 := IntWalk.i32_in _ (by omega)
  go_enter Try.func15, Try.ntmps15
  go_wp2_with fail
  go_region_held3 (fun W => W.cell? ⟨w.heap.size, 2, none⟩ = some (.int .u8 B) ∧ W.cell? ⟨w.heap.size, 4, none⟩ = some (.int .u8 O) ∧ W.cell? ⟨w.heap.size, 7, none⟩ = some (.int .i16 M)) (go_keep) (fail)
  go_wp2_with (go_at_call 22; refine (HE.out _).mono ?_; rintro e w2 ⟨rfl, hb⟩)
  go_ret
  exact ⟨X, ⟨HI.out.1, HI.out.2⟩, rfl, by with_reducible first | exact word_below hb | exact word_below2 hb | exact word_below0 hb⟩

set_option maxHeartbeats 3200000 in
theorem word_1b (F A B C O M : Int) (U V : Bool) (hF0 : 0 ≤ F) (hF1 : F ≤ 255) (hA0 : 0 ≤ A) (hA1 : A ≤ 255) (hB0 : 0 ≤ B) (hB1 : B ≤ 255) (hC0 : 0 ≤ C) (hC1 : C ≤ 255) (hO0 : 0 ≤ O) (hO1 : O ≤ 255) (hM0 : -32768 ≤ M) (hM1 : M ≤ 32767) (hf : F % 4 = 1) (hM : 0 < M) (w : World) :
    Calls Try.prog 15 #[.agg #[.int .u8 F, .int .u8 A, .int .u8 B, .int .u8 C, .int .u8 O, .bool U, .bool V, .int .i16 M]] w (WordPost w) := by
  have hE := fun W => renc_any ⟨1, U, V, A % 16, B % 16, 0, O % 12, M % 64⟩ (right1 (by omega) (by omega) (by omega) (by omega) (by omega)) W
  have hI := enc_in ⟨1, U, V, A % 16, B % 16, 0, O % 12, M % 64⟩ (right1 (by omega) (by omega) (by omega) (by omega) (by omega))
  obtain ⟨X, hX⟩ : ∃ X, X = encW ⟨1, U, V, A % 16, B % 16, 0, O % 12, M % 64⟩ := ⟨_, rfl⟩
  rw [← hX] at hE hI
  simp only [insV] at hE
  have HE := Lib.hid hE
  have HI := Lib.hid hI
  clear hE hI hX
  have eB : IntKind.i64.wrap (B % 16) = B % 16 := IntWalk.i64_in _ (by omega)
  have eT : O.tmod 12 = O % 12 := Int.tmod_eq_emod_of_nonneg (by omega)
  have eO : IntKind.i64.wrap (O % 12) = O % 12 := IntWalk.i64_in _ (by omega)
  have eM : IntKind.u16.wrap M = M % 65536 := u16_mod M
  have eN : IntKind.i32.wrap (M % 65536) = M % 65536 := IntWalk.i32_in _ (by omega)
  have eP : M.tmod 64 = M % 64 := Int.tmod_eq_emod_of_nonneg (by omega)
  have eQ : IntKind.i32.wrap (M % 64) = M % 64 := IntWalk.i32_in _ (by omega)
  go_enter Try.func15, Try.ntmps15
  go_wp2_with fail
  go_region_held3 (fun W => W.cell? ⟨w.heap.size, 2, none⟩ = some (.int .u8 B) ∧ W.cell? ⟨w.heap.size, 4, none⟩ = some (.int .u8 O) ∧ W.cell? ⟨w.heap.size, 7, none⟩ = some (.int .i16 M)) (go_keep) (fail)
  go_wp2_with (go_at_call 22; refine (HE.out _).mono ?_; rintro e w2 ⟨rfl, hb⟩)
  go_ret
  exact ⟨X, ⟨HI.out.1, HI.out.2⟩, rfl, by with_reducible first | exact word_below hb | exact word_below2 hb | exact word_below0 hb⟩

set_option maxHeartbeats 3200000 in
theorem word_2a (F A B C O M : Int) (U V : Bool) (hF0 : 0 ≤ F) (hF1 : F ≤ 255) (hA0 : 0 ≤ A) (hA1 : A ≤ 255) (hB0 : 0 ≤ B) (hB1 : B ≤ 255) (hC0 : 0 ≤ C) (hC1 : C ≤ 255) (hO0 : 0 ≤ O) (hO1 : O ≤ 255) (hM0 : -32768 ≤ M) (hM1 : M ≤ 32767) (hf : F % 4 = 2) (hO : O % 8 = 1) (w : World) :
    Calls Try.prog 15 #[.agg #[.int .u8 F, .int .u8 A, .int .u8 B, .int .u8 C, .int .u8 O, .bool U, .bool false, .int .i16 M]] w (WordPost w) := by
  obtain ⟨y0, y1⟩ := tmod8 M
  obtain ⟨Y, hY⟩ : ∃ Y, Y = M.tmod 8 := ⟨_, rfl⟩
  have eY : M.tmod 8 = Y := hY.symm
  rw [← hY] at y0 y1
  clear hY
  have hE := fun W => renc_any ⟨2, U, false, A % 16, 0, 0, 0, -64 + M % 2 * 4⟩ (right2 (by omega) (by omega) (by omega) (by omega)) W
  have hI := enc_in ⟨2, U, false, A % 16, 0, 0, 0, -64 + M % 2 * 4⟩ (right2 (by omega) (by omega) (by omega) (by omega))
  obtain ⟨X, hX⟩ : ∃ X, X = encW ⟨2, U, false, A % 16, 0, 0, 0, -64 + M % 2 * 4⟩ := ⟨_, rfl⟩
  rw [← hX] at hE hI
  simp only [insV] at hE
  have HE := Lib.hid hE
  have HI := Lib.hid hI
  clear hE hI hX
  have eB : IntKind.i64.wrap (B % 4) = B % 4 := IntWalk.i64_in _ (by omega)
  have eW : IntKind.i32.wrap Y = Y := IntWalk.i32_in _ (by omega)
  have eV : IntKind.i32.wrap (Y * 4) = Y * 4 := IntWalk.i32_in _ (by omega)
  have eO8 : O.tmod 8 = O % 8 := Int.tmod_eq_emod_of_nonneg (by omega)
  have eZ : IntKind.i32.wrap (M % 2) = M % 2 := IntWalk.i32_in _ (by omega)
  have eU : IntKind.i32.wrap (M % 2 * 4) = M % 2 * 4 := IntWalk.i32_in _ (by omega)
  have eX : IntKind.i32.wrap (-64 + M % 2 * 4) = -64 + M % 2 * 4 := IntWalk.i32_in _ (by omega)
  have q1 : (O % 8 == 1) = true := by simp [hO]
  go_enter Try.func15, Try.ntmps15
  go_wp2_with fail
  go_region_held3 (fun W => W.cell? ⟨w.heap.size, 2, none⟩ = some (.int .u8 B) ∧ W.cell? ⟨w.heap.size, 7, none⟩ = some (.int .i16 M)) (go_keep) (fail)
  go_wp2_with fail
  go_region_held3 (fun W => W.cell? ⟨w.heap.size, 7, none⟩ = some (.int .i16 M)) (go_keep) (fail)
  go_wp2_with (go_at_call 22; refine (HE.out _).mono ?_; rintro e w2 ⟨rfl, hb⟩)
  go_ret
  exact ⟨X, ⟨HI.out.1, HI.out.2⟩, rfl, by with_reducible first | exact word_below hb | exact word_below2 hb | exact word_below0 hb⟩

set_option maxHeartbeats 3200000 in
theorem word_2b (F A B C O M : Int) (U V : Bool) (hF0 : 0 ≤ F) (hF1 : F ≤ 255) (hA0 : 0 ≤ A) (hA1 : A ≤ 255) (hB0 : 0 ≤ B) (hB1 : B ≤ 255) (hC0 : 0 ≤ C) (hC1 : C ≤ 255) (hO0 : 0 ≤ O) (hO1 : O ≤ 255) (hM0 : -32768 ≤ M) (hM1 : M ≤ 32767) (hf : F % 4 = 2) (hO : ¬ O % 8 = 1) (w : World) :
    Calls Try.prog 15 #[.agg #[.int .u8 F, .int .u8 A, .int .u8 B, .int .u8 C, .int .u8 O, .bool U, .bool false, .int .i16 M]] w (WordPost w) := by
  obtain ⟨y0, y1⟩ := tmod8 M
  obtain ⟨Y, hY⟩ : ∃ Y, Y = M.tmod 8 := ⟨_, rfl⟩
  have eY : M.tmod 8 = Y := hY.symm
  rw [← hY] at y0 y1
  clear hY
  have hE := fun W => renc_any ⟨2, U, false, A % 16, B % 4, 0, 0, Y * 4⟩ (right2 (by omega) (by omega) (by omega) (by omega)) W
  have hI := enc_in ⟨2, U, false, A % 16, B % 4, 0, 0, Y * 4⟩ (right2 (by omega) (by omega) (by omega) (by omega))
  obtain ⟨X, hX⟩ : ∃ X, X = encW ⟨2, U, false, A % 16, B % 4, 0, 0, Y * 4⟩ := ⟨_, rfl⟩
  rw [← hX] at hE hI
  simp only [insV] at hE
  have HE := Lib.hid hE
  have HI := Lib.hid hI
  clear hE hI hX
  have eB : IntKind.i64.wrap (B % 4) = B % 4 := IntWalk.i64_in _ (by omega)
  have eW : IntKind.i32.wrap Y = Y := IntWalk.i32_in _ (by omega)
  have eV : IntKind.i32.wrap (Y * 4) = Y * 4 := IntWalk.i32_in _ (by omega)
  have eO8 : O.tmod 8 = O % 8 := Int.tmod_eq_emod_of_nonneg (by omega)
  have q1 : (O % 8 == 1) = false := by simp [hO]
  go_enter Try.func15, Try.ntmps15
  go_wp2_with fail
  go_region_held3 (fun W => W.cell? ⟨w.heap.size, 2, none⟩ = some (.int .u8 B) ∧ W.cell? ⟨w.heap.size, 7, none⟩ = some (.int .i16 M)) (go_keep) (fail)
  go_wp2_with (go_at_call 22; refine (HE.out _).mono ?_; rintro e w2 ⟨rfl, hb⟩)
  go_ret
  exact ⟨X, ⟨HI.out.1, HI.out.2⟩, rfl, by with_reducible first | exact word_below hb | exact word_below2 hb | exact word_below0 hb⟩

set_option maxHeartbeats 3200000 in
theorem word_2c (F A B C O M : Int) (U V : Bool) (hF0 : 0 ≤ F) (hF1 : F ≤ 255) (hA0 : 0 ≤ A) (hA1 : A ≤ 255) (hB0 : 0 ≤ B) (hB1 : B ≤ 255) (hC0 : 0 ≤ C) (hC1 : C ≤ 255) (hO0 : 0 ≤ O) (hO1 : O ≤ 255) (hM0 : -32768 ≤ M) (hM1 : M ≤ 32767) (hf : F % 4 = 2) (hO : O = 0) (w : World) :
    Calls Try.prog 15 #[.agg #[.int .u8 F, .int .u8 A, .int .u8 B, .int .u8 C, .int .u8 O, .bool U, .bool true, .int .i16 M]] w (WordPost w) := by
  obtain ⟨y0, y1⟩ := tmod8 M
  obtain ⟨Y, hY⟩ : ∃ Y, Y = M.tmod 8 := ⟨_, rfl⟩
  have eY : M.tmod 8 = Y := hY.symm
  rw [← hY] at y0 y1
  clear hY
  have hE := fun W => renc_any ⟨2, U, true, A % 16, B % 4, 0, 0, Y * 4⟩ (right2 (by omega) (by omega) (by omega) (by omega)) W
  have hI := enc_in ⟨2, U, true, A % 16, B % 4, 0, 0, Y * 4⟩ (right2 (by omega) (by omega) (by omega) (by omega))
  obtain ⟨X, hX⟩ : ∃ X, X = encW ⟨2, U, true, A % 16, B % 4, 0, 0, Y * 4⟩ := ⟨_, rfl⟩
  rw [← hX] at hE hI
  simp only [insV] at hE
  have HE := Lib.hid hE
  have HI := Lib.hid hI
  clear hE hI hX
  have eB : IntKind.i64.wrap (B % 4) = B % 4 := IntWalk.i64_in _ (by omega)
  have eW : IntKind.i32.wrap Y = Y := IntWalk.i32_in _ (by omega)
  have eV : IntKind.i32.wrap (Y * 4) = Y * 4 := IntWalk.i32_in _ (by omega)
  have eO8 : O.tmod 8 = O % 8 := Int.tmod_eq_emod_of_nonneg (by omega)
  subst hO
  clear eO8 hO0 hO1
  go_enter Try.func15, Try.ntmps15
  go_wp2_with fail
  go_region_held3 (fun W => W.cell? ⟨w.heap.size, 2, none⟩ = some (.int .u8 B) ∧ W.cell? ⟨w.heap.size, 7, none⟩ = some (.int .i16 M)) (go_keep) (fail)
  go_wp2_with (go_at_call 22; refine (HE.out _).mono ?_; rintro e w2 ⟨rfl, hb⟩)
  go_ret
  exact ⟨X, ⟨HI.out.1, HI.out.2⟩, rfl, by with_reducible first | exact word_below hb | exact word_below2 hb | exact word_below0 hb⟩

set_option maxHeartbeats 3200000 in
theorem word_2d (F A B C O M : Int) (U V : Bool) (hF0 : 0 ≤ F) (hF1 : F ≤ 255) (hA0 : 0 ≤ A) (hA1 : A ≤ 255) (hB0 : 0 ≤ B) (hB1 : B ≤ 255) (hC0 : 0 ≤ C) (hC1 : C ≤ 255) (hO0 : 0 ≤ O) (hO1 : O ≤ 255) (hM0 : -32768 ≤ M) (hM1 : M ≤ 32767) (hf : F % 4 = 2) (hO : ¬ O = 0) (hP : O % 8 = 1) (w : World) :
    Calls Try.prog 15 #[.agg #[.int .u8 F, .int .u8 A, .int .u8 B, .int .u8 C, .int .u8 O, .bool U, .bool true, .int .i16 M]] w (WordPost w) := by
  obtain ⟨y0, y1⟩ := tmod8 M
  obtain ⟨Y, hY⟩ : ∃ Y, Y = M.tmod 8 := ⟨_, rfl⟩
  have eY : M.tmod 8 = Y := hY.symm
  rw [← hY] at y0 y1
  clear hY
  have hE := fun W => renc_any ⟨2, U, false, A % 16, 0, 0, 0, -64 + M % 2 * 4⟩ (right2 (by omega) (by omega) (by omega) (by omega)) W
  have hI := enc_in ⟨2, U, false, A % 16, 0, 0, 0, -64 + M % 2 * 4⟩ (right2 (by omega) (by omega) (by omega) (by omega))
  obtain ⟨X, hX⟩ : ∃ X, X = encW ⟨2, U, false, A % 16, 0, 0, 0, -64 + M % 2 * 4⟩ := ⟨_, rfl⟩
  rw [← hX] at hE hI
  simp only [insV] at hE
  have HE := Lib.hid hE
  have HI := Lib.hid hI
  clear hE hI hX
  have eB : IntKind.i64.wrap (B % 4) = B % 4 := IntWalk.i64_in _ (by omega)
  have eW : IntKind.i32.wrap Y = Y := IntWalk.i32_in _ (by omega)
  have eV : IntKind.i32.wrap (Y * 4) = Y * 4 := IntWalk.i32_in _ (by omega)
  have eO8 : O.tmod 8 = O % 8 := Int.tmod_eq_emod_of_nonneg (by omega)
  have eZ : IntKind.i32.wrap (M % 2) = M % 2 := IntWalk.i32_in _ (by omega)
  have eU : IntKind.i32.wrap (M % 2 * 4) = M % 2 * 4 := IntWalk.i32_in _ (by omega)
  have eX : IntKind.i32.wrap (-64 + M % 2 * 4) = -64 + M % 2 * 4 := IntWalk.i32_in _ (by omega)
  have q0 : (O == 0) = false := by simp [hO]
  have q1 : (O % 8 == 1) = true := by simp [hP]
  go_enter Try.func15, Try.ntmps15
  go_wp2_with fail
  go_region_held3 (fun W => W.cell? ⟨w.heap.size, 2, none⟩ = some (.int .u8 B) ∧ W.cell? ⟨w.heap.size, 7, none⟩ = some (.int .i16 M)) (go_keep) (fail)
  go_wp2_with fail
  go_region_held3 (fun W => W.cell? ⟨w.heap.size, 7, none⟩ = some (.int .i16 M)) (go_keep) (fail)
  go_wp2_with (go_at_call 22; refine (HE.out _).mono ?_; rintro e w2 ⟨rfl, hb⟩)
  go_ret
  exact ⟨X, ⟨HI.out.1, HI.out.2⟩, rfl, by with_reducible first | exact word_below hb | exact word_below2 hb | exact word_below0 hb⟩

set_option maxHeartbeats 3200000 in
theorem word_2e (F A B C O M : Int) (U V : Bool) (hF0 : 0 ≤ F) (hF1 : F ≤ 255) (hA0 : 0 ≤ A) (hA1 : A ≤ 255) (hB0 : 0 ≤ B) (hB1 : B ≤ 255) (hC0 : 0 ≤ C) (hC1 : C ≤ 255) (hO0 : 0 ≤ O) (hO1 : O ≤ 255) (hM0 : -32768 ≤ M) (hM1 : M ≤ 32767) (hf : F % 4 = 2) (hO : ¬ O = 0) (hP : ¬ O % 8 = 1) (w : World) :
    Calls Try.prog 15 #[.agg #[.int .u8 F, .int .u8 A, .int .u8 B, .int .u8 C, .int .u8 O, .bool U, .bool true, .int .i16 M]] w (WordPost w) := by
  obtain ⟨y0, y1⟩ := tmod8 M
  obtain ⟨Y, hY⟩ : ∃ Y, Y = M.tmod 8 := ⟨_, rfl⟩
  have eY : M.tmod 8 = Y := hY.symm
  rw [← hY] at y0 y1
  clear hY
  have hE := fun W => renc_any ⟨2, U, false, A % 16, B % 4, 0, 0, Y * 4⟩ (right2 (by omega) (by omega) (by omega) (by omega)) W
  have hI := enc_in ⟨2, U, false, A % 16, B % 4, 0, 0, Y * 4⟩ (right2 (by omega) (by omega) (by omega) (by omega))
  obtain ⟨X, hX⟩ : ∃ X, X = encW ⟨2, U, false, A % 16, B % 4, 0, 0, Y * 4⟩ := ⟨_, rfl⟩
  rw [← hX] at hE hI
  simp only [insV] at hE
  have HE := Lib.hid hE
  have HI := Lib.hid hI
  clear hE hI hX
  have eB : IntKind.i64.wrap (B % 4) = B % 4 := IntWalk.i64_in _ (by omega)
  have eW : IntKind.i32.wrap Y = Y := IntWalk.i32_in _ (by omega)
  have eV : IntKind.i32.wrap (Y * 4) = Y * 4 := IntWalk.i32_in _ (by omega)
  have eO8 : O.tmod 8 = O % 8 := Int.tmod_eq_emod_of_nonneg (by omega)
  have q0 : (O == 0) = false := by simp [hO]
  have q1 : (O % 8 == 1) = false := by simp [hP]
  go_enter Try.func15, Try.ntmps15
  go_wp2_with fail
  go_region_held3 (fun W => W.cell? ⟨w.heap.size, 2, none⟩ = some (.int .u8 B) ∧ W.cell? ⟨w.heap.size, 7, none⟩ = some (.int .i16 M)) (go_keep) (fail)
  go_wp2_with (go_at_call 22; refine (HE.out _).mono ?_; rintro e w2 ⟨rfl, hb⟩)
  go_ret
  exact ⟨X, ⟨HI.out.1, HI.out.2⟩, rfl, by with_reducible first | exact word_below hb | exact word_below2 hb | exact word_below0 hb⟩

set_option maxHeartbeats 3200000 in
theorem word_3 (F A B C O M : Int) (U V : Bool) (hF0 : 0 ≤ F) (hF1 : F ≤ 255) (hA0 : 0 ≤ A) (hA1 : A ≤ 255) (hB0 : 0 ≤ B) (hB1 : B ≤ 255) (hC0 : 0 ≤ C) (hC1 : C ≤ 255) (hO0 : 0 ≤ O) (hO1 : O ≤ 255) (hM0 : -32768 ≤ M) (hM1 : M ≤ 32767) (hf : F % 4 = 3) (w : World) :
    Calls Try.prog 15 #[.agg #[.int .u8 F, .int .u8 A, .int .u8 B, .int .u8 C, .int .u8 O, .bool true, .bool V, .int .i16 M]] w (WordPost w) := by
  obtain ⟨y0, y1⟩ := tmod6 M
  obtain ⟨Y, hY⟩ : ∃ Y, Y = M.tmod 6 := ⟨_, rfl⟩
  have eY : M.tmod 6 = Y := hY.symm
  rw [← hY] at y0 y1
  clear hY
  have hE := fun W => renc_any ⟨3, true, V, A % 16, 0, 0, 0, Y⟩ (right3 (by omega) (by omega) (by omega)) W
  have hI := enc_in ⟨3, true, V, A % 16, 0, 0, 0, Y⟩ (right3 (by omega) (by omega) (by omega))
  obtain ⟨X, hX⟩ : ∃ X, X = encW ⟨3, true, V, A % 16, 0, 0, 0, Y⟩ := ⟨_, rfl⟩
  rw [← hX] at hE hI
  simp only [insV] at hE
  have HE := Lib.hid hE
  have HI := Lib.hid hI
  clear hE hI hX
  have eW : IntKind.i32.wrap Y = Y := IntWalk.i32_in _ (by omega)
  go_enter Try.func15, Try.ntmps15
  go_wp2_with fail
  go_wp2_with (go_at_call 22; refine (HE.out _).mono ?_; rintro e w2 ⟨rfl, hb⟩)
  go_ret
  exact ⟨X, ⟨HI.out.1, HI.out.2⟩, rfl, by with_reducible first | exact word_below hb | exact word_below2 hb | exact word_below0 hb⟩

set_option maxHeartbeats 3200000 in
theorem word_4 (F A B C O M : Int) (U V : Bool) (hF0 : 0 ≤ F) (hF1 : F ≤ 255) (hA0 : 0 ≤ A) (hA1 : A ≤ 255) (hB0 : 0 ≤ B) (hB1 : B ≤ 255) (hC0 : 0 ≤ C) (hC1 : C ≤ 255) (hO0 : 0 ≤ O) (hO1 : O ≤ 255) (hM0 : -32768 ≤ M) (hM1 : M ≤ 32767) (hf : F % 4 = 3) (w : World) :
    Calls Try.prog 15 #[.agg #[.int .u8 F, .int .u8 A, .int .u8 B, .int .u8 C, .int .u8 O, .bool false, .bool V, .int .i16 M]] w (WordPost w) := by
  have hE := fun W => renc_any ⟨3, false, V, A % 16, 0, C % 16, 0, M % 16⟩ (right4 (by omega) (by omega) (by omega) (by omega)) W
  have hI := enc_in ⟨3, false, V, A % 16, 0, C % 16, 0, M % 16⟩ (right4 (by omega) (by omega) (by omega) (by omega))
  obtain ⟨X, hX⟩ : ∃ X, X = encW ⟨3, false, V, A % 16, 0, C % 16, 0, M % 16⟩ := ⟨_, rfl⟩
  rw [← hX] at hE hI
  simp only [insV] at hE
  have HE := Lib.hid hE
  have HI := Lib.hid hI
  clear hE hI hX
  have eC : IntKind.i64.wrap (C % 16) = C % 16 := IntWalk.i64_in _ (by omega)
  have eZ : IntKind.i32.wrap (M % 16) = M % 16 := IntWalk.i32_in _ (by omega)
  go_enter Try.func15, Try.ntmps15
  go_wp2_with fail
  go_region_held3 (fun W => W.cell? ⟨w.heap.size, 7, none⟩ = some (.int .i16 M) ∧ W.cell? ⟨w.heap.size, 3, none⟩ = some (.int .u8 C)) (go_keep) (fail)
  go_wp2_with (go_at_call 22; refine (HE.out _).mono ?_; rintro e w2 ⟨rfl, hb⟩)
  go_ret
  exact ⟨X, ⟨HI.out.1, HI.out.2⟩, rfl, by with_reducible first | exact word_below hb | exact word_below2 hb | exact word_below0 hb⟩

theorem word_any (F A B C O M : Int) (U V : Bool) (hF0 : 0 ≤ F) (hF1 : F ≤ 255) (hA0 : 0 ≤ A) (hA1 : A ≤ 255) (hB0 : 0 ≤ B) (hB1 : B ≤ 255) (hC0 : 0 ≤ C) (hC1 : C ≤ 255) (hO0 : 0 ≤ O) (hO1 : O ≤ 255) (hM0 : -32768 ≤ M) (hM1 : M ≤ 32767) (w : World) :
    Calls Try.prog 15 #[.agg #[.int .u8 F, .int .u8 A, .int .u8 B, .int .u8 C, .int .u8 O, .bool U, .bool V, .int .i16 M]] w (WordPost w) := by
  rcases (by omega : F % 4 = 0 ∨ F % 4 = 1 ∨ F % 4 = 2 ∨ F % 4 = 3) with hf | hf | hf | hf
  · exact word_0 F A B C O M U V hF0 hF1 hA0 hA1 hB0 hB1 hC0 hC1 hO0 hO1 hM0 hM1 hf w
  · by_cases hM : M ≤ 0
    · exact word_1a F A B C O M U V hF0 hF1 hA0 hA1 hB0 hB1 hC0 hC1 hO0 hO1 hM0 hM1 hf hM w
    · exact word_1b F A B C O M U V hF0 hF1 hA0 hA1 hB0 hB1 hC0 hC1 hO0 hO1 hM0 hM1 hf (by omega) w
  · cases V
    · by_cases hO : O % 8 = 1
      · exact word_2a F A B C O M U true hF0 hF1 hA0 hA1 hB0 hB1 hC0 hC1 hO0 hO1 hM0 hM1 hf hO w
      · exact word_2b F A B C O M U true hF0 hF1 hA0 hA1 hB0 hB1 hC0 hC1 hO0 hO1 hM0 hM1 hf hO w
    · by_cases hO : O = 0
      · exact word_2c F A B C O M U true hF0 hF1 hA0 hA1 hB0 hB1 hC0 hC1 hO0 hO1 hM0 hM1 hf hO w
      · by_cases hP : O % 8 = 1
        · exact word_2d F A B C O M U true hF0 hF1 hA0 hA1 hB0 hB1 hC0 hC1 hO0 hO1 hM0 hM1 hf hO hP w
        · exact word_2e F A B C O M U true hF0 hF1 hA0 hA1 hB0 hB1 hC0 hC1 hO0 hO1 hM0 hM1 hf hO hP w
  · cases U
    · exact word_4 F A B C O M true V hF0 hF1 hA0 hA1 hB0 hB1 hC0 hC1 hO0 hO1 hM0 hM1 hf w
    · exact word_3 F A B C O M true V hF0 hF1 hA0 hA1 hB0 hB1 hC0 hC1 hO0 hO1 hM0 hM1 hf w
end Go.Proofs.Ytflinbfobadheaa
