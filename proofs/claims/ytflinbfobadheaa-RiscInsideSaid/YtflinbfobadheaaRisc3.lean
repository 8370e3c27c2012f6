/- Contracts of both Decodes. -/
import Derived.Test.YtflinbfobadheaaRisc2
namespace Go.Proofs.Ytflinbfobadheaa
open Go.RowKit Go.Waf
set_option maxRecDepth 100000
set_option linter.unusedVariables false
attribute [local go_sem] mask15_u32 mask1_u32' mask16_u32 mask20_u32 mask24_u32

def decV (x : Int) : Value := .tuple #[insV (if decOk x then decI x else {}), .bool (decOk x)]
theorem decV_no (x : Int) (h : decOk x = false) : decV x = .tuple #[.agg #[.int .i64 0, .bool false, .bool false, .int .i64 0, .int .i64 0, .int .i64 0, .int .i64 0, .int .i32 0], .bool false] := by unfold decV; rw [h]; rfl
theorem decV_yes (x : Int) (h : decOk x = true) : decV x = .tuple #[insV (decI x), .bool true] := by unfold decV; rw [h]; rfl
theorem ret_v {a b : Value} (h : a = b) : Ending.returned a = .returned b := by rw [h]
theorem decode_below {w w1 : World} (o o' : Obj) (h : Below ((w.alloc o).alloc o').heap.size ((w.alloc o).alloc o') w1) : Below w.heap.size w w1 :=
  (((Below.refl _ _).alloc (Nat.le_refl _) _).alloc (by simp) _).trans (h.mono (by simp; omega))
theorem below_set8 {w w1 : World} (h : Below w.heap.size w w1) (v0 v1 v2 v3 v4 v5 v6 v7 : Value) (b : Nat) (hb : w.heap.size ≤ b) :
    Below w.heap.size w ((((((((w1.setCell ⟨b, 0, none⟩ v0).setCell ⟨b, 1, none⟩ v1).setCell ⟨b, 2, none⟩ v2).setCell ⟨b, 3, none⟩ v3).setCell ⟨b, 4, none⟩ v4).setCell ⟨b, 5, none⟩ v5).setCell ⟨b, 6, none⟩ v6).setCell ⟨b, 7, none⟩ v7) :=
  (((((((h.setCell hb _).setCell hb _).setCell hb _).setCell hb _).setCell hb _).setCell hb _).setCell hb _).setCell hb _
theorem below_set8' {w w1 : World} (h : Below w.heap.size w w1) (v0 v1 v2 v3 v4 v5 v6 v7 : Value) :
    Below w.heap.size w ((((((((w1.setCell ⟨w.heap.size, 0, none⟩ v0).setCell ⟨w.heap.size, 1, none⟩ v1).setCell ⟨w.heap.size, 2, none⟩ v2).setCell ⟨w.heap.size, 3, none⟩ v3).setCell ⟨w.heap.size, 4, none⟩ v4).setCell ⟨w.heap.size, 5, none⟩ v5).setCell ⟨w.heap.size, 6, none⟩ v6).setCell ⟨w.heap.size, 7, none⟩ v7) := below_set8 h _ _ _ _ _ _ _ _ _ (Nat.le_refl _)
theorem decode_some {w w1 : World} {T : TypeId} (o' : Obj) (h : Below ((w.alloc (.cells #[.int .i64 0, .bool false, .bool false, .int .i64 0, .int .i64 0, .int .i64 0, .int .i64 0, .int .i32 0] T)).alloc o').heap.size ((w.alloc (.cells #[.int .i64 0, .bool false, .bool false, .int .i64 0, .int .i64 0, .int .i64 0, .int .i64 0, .int .i32 0] T)).alloc o') w1) (i : Nat) (hi : i < 8) : (w1.cell? ⟨w.heap.size, i, none⟩).isSome = true := by
  rw [h.cell (p := ⟨w.heap.size, i, none⟩) (by simp; omega)]
  have hb : ((w.alloc (.cells #[.int .i64 0, .bool false, .bool false, .int .i64 0, .int .i64 0, .int .i64 0, .int .i64 0, .int .i32 0] T)).alloc o').heap[w.heap.size]? = some (.cells #[.int .i64 0, .bool false, .bool false, .int .i64 0, .int .i64 0, .int .i64 0, .int .i64 0, .int .i32 0] T (0, 0)) := heap_alloc2_old w _ _
  rw [cell_of_row _ _ i _ _ _ hb]
  rcases (by omega : i = 0 ∨ i = 1 ∨ i = 2 ∨ i = 3 ∨ i = 4 ∨ i = 5 ∨ i = 6 ∨ i = 7) with rfl | rfl | rfl | rfl | rfl | rfl | rfl | rfl <;> rfl

set_option maxHeartbeats 1600000 in
theorem decode_0 (x : Int) (h0 : 0 ≤ x) (h1 : x < 4294967296) (hf : fOf x = 0) (w : World) :
    Calls Try.prog 32 #[.int .u32 x] w fun e w' => e = .returned (decV x) ∧ Below w.heap.size w w' := by
  have hR := dec_right x h0 h1
  have hED := enc_dec x h0 h1
  rw [decI_0 x hf] at hR hED
  obtain ⟨u, hu⟩ : ∃ u, u = uOf x := ⟨_, rfl⟩
  obtain ⟨v, hv⟩ : ∃ v, v = vOf x := ⟨_, rfl⟩
  obtain ⟨A, hA⟩ : ∃ A, A = aOf x := ⟨_, rfl⟩
  obtain ⟨B, hB⟩ : ∃ B, B = bOf x := ⟨_, rfl⟩
  obtain ⟨O, hO⟩ : ∃ O, O = opOf x := ⟨_, rfl⟩
  obtain ⟨C, hC⟩ : ∃ C, C = cOf x := ⟨_, rfl⟩
  have f24 := fun W => field_24 x h0 h1 W
  rw [← hA] at f24
  have F24 := Lib.hid f24
  clear f24
  have f20 := fun W => field_20 x h0 h1 W
  rw [← hB] at f20
  have F20 := Lib.hid f20
  clear f20
  have f16 := fun W => field_16 x h0 h1 W
  rw [← hO] at f16
  have F16 := Lib.hid f16
  clear f16
  have f0 := fun W => field_0 x h0 h1 W
  rw [← hC] at f0
  have F0 := Lib.hid f0
  clear f0
  rw [← hu, ← hv, ← hA, ← hB, ← hO, ← hC] at hR hED
  have hE := fun W => enc_0 u v A B C O hR.1 hR.2.1 hR.2.2.1 hR.2.2.2.1 W
  simp only [insV] at hE
  obtain ⟨E, hEE⟩ : ∃ E, E = encW ⟨0, u, v, A, B, C, O, 0⟩ := ⟨_, rfl⟩
  rw [← hEE] at hE hED
  have eu : (x / 536870912 % 2 == 1) = u := hu.symm
  have ev : (x / 268435456 % 2 == 1) = v := hv.symm
  have ef : x / 1073741824 = 0 := hf
  have HI := Lib.hid (show insV (decI x) = insV ⟨0, u, v, A, B, C, O, 0⟩ from by rw [decI_0 x hf, hu, hv, hA, hB, hO, hC])
  have HE := Lib.hid hE
  have HED := Lib.hid hED
  clear hR hED hu hv hA hB hO hC hE hEE hf
  go_enter Try.func32, Try.ntmps32
  go_wp2_with (first | (go_at_call 45; with_reducible refine (F24.out _).mono ?_; rintro e w1 ⟨rfl, rfl⟩) | (go_at_call 45; with_reducible refine (F20.out _).mono ?_; rintro e w1 ⟨rfl, rfl⟩) | (go_at_call 45; with_reducible refine (F16.out _).mono ?_; rintro e w1 ⟨rfl, rfl⟩) | (go_at_call 45; with_reducible refine (F0.out _).mono ?_; rintro e w1 ⟨rfl, rfl⟩))
  refine (HE.out _).mono ?_; rintro e w1 ⟨rfl, hb1⟩
  obtain ⟨k0, k1⟩ := bcell hb1
  have hz := hb1.size
  have hb2 := decode_below _ _ hb1
  have HS := Lib.hid (decode_some _ hb1)
  cases hd : decOk x with
  | true =>
    obtain rfl : E = x := HED.out.2 hd
    have HD := Lib.hid hd
    have HB2 := Lib.hid hb2
    clear hd hb2
    go_wp2_with fail
    exact bodyPost_ret (v := .tuple #[insV ⟨0, u, v, A, B, C, O, 0⟩, .bool true]) (by simp [results, insV, Try.results32, go_sem, HS.out 0, HS.out 1, HS.out 2, HS.out 3, HS.out 4, HS.out 5, HS.out 6, HS.out 7]) rfl ⟨ret_v (by rw [decV_yes _ HD.out, HI.out]), below_set8' HB2.out _ _ _ _ _ _ _ _⟩
  | false =>
    have hne : (E == x) = false := by
      rw [beq_eq_false_iff_ne]
      intro h
      have := HED.out.1 h
      rw [hd] at this; cases this
    have HD := Lib.hid hd
    have HB2 := Lib.hid hb2
    clear hd hb2
    go_wp2_with fail
    exact bodyPost_ret (v := .tuple #[.agg #[.int .i64 0, .bool false, .bool false, .int .i64 0, .int .i64 0, .int .i64 0, .int .i64 0, .int .i32 0], .bool false]) (by simp [results, Try.results32, go_sem, HS.out 0, HS.out 1, HS.out 2, HS.out 3, HS.out 4, HS.out 5, HS.out 6, HS.out 7]) rfl ⟨ret_v (decV_no _ HD.out).symm, below_set8' HB2.out _ _ _ _ _ _ _ _⟩

set_option maxHeartbeats 1600000 in
theorem rdecode_0 (x : Int) (h0 : 0 ≤ x) (h1 : x < 4294967296) (hf : fOf x = 0) (w : World) :
    Calls Try.prog 40 #[.int .u32 x] w fun e w' => e = .returned (decV x) ∧ Below w.heap.size w w' := by
  have hOK := decOk_0 x hf
  obtain ⟨u, hu⟩ : ∃ u, u = uOf x := ⟨_, rfl⟩
  obtain ⟨v, hv⟩ : ∃ v, v = vOf x := ⟨_, rfl⟩
  obtain ⟨A, hA⟩ : ∃ A, A = aOf x := ⟨_, rfl⟩
  obtain ⟨B, hB⟩ : ∃ B, B = bOf x := ⟨_, rfl⟩
  obtain ⟨O, hO⟩ : ∃ O, O = opOf x := ⟨_, rfl⟩
  obtain ⟨C, hC⟩ : ∃ C, C = cOf x := ⟨_, rfl⟩
  have eu : (x / 536870912 % 2 == 1) = u := hu.symm
  have ev : (x / 268435456 % 2 == 1) = v := hv.symm
  have ef : x / 1073741824 = 0 := hf
  have ea : x / 16777216 % 16 = A := hA.symm
  have eb : x / 1048576 % 16 = B := hB.symm
  have eo : x / 65536 % 16 = O := hO.symm
  have ec : x % 16 = C := hC.symm
  have HI := Lib.hid (show insV (decI x) = insV ⟨0, u, v, A, B, C, O, 0⟩ from by rw [decI_0 x hf, hu, hv, hA, hB, hO, hC])
  have HOK := Lib.hid hOK
  clear hOK hu hv hA hB hO hC hf
  have hmm := mask_mid x h0 h1
  obtain ⟨y, hy⟩ : ∃ y, y = x / 16 % 4096 := ⟨_, rfl⟩
  have hok := HOK.out
  rw [← hy] at hmm hok
  have y0 : 0 ≤ y := by omega
  have HY := Lib.hid hy
  clear hy
  by_cases hz : y = 0
  · have HD := Lib.hid (show decOk x = true from by rw [hok, hz]; rfl)
    subst hz
    clear hok
    go_enter Try.func40, Try.ntmps40
    go_wp2_with fail
    exact bodyPost_ret (v := .tuple #[insV ⟨0, u, v, A, B, C, O, 0⟩, .bool true]) (by simp [results, insV, Try.results40, go_sem]) rfl ⟨ret_v (by rw [decV_yes _ HD.out, HI.out]), ((Below.refl _ _).alloc (Nat.le_refl _) _).alloc (by simp) _⟩
  · have hz2 : (y * 16 == 0) = false := by simp; omega
    have hz3 : (y == 0) = false := by simp [hz]
    have HD := Lib.hid (show decOk x = false from by rw [hok, hz3])
    clear hok hz
    go_enter Try.func40, Try.ntmps40
    go_wp2_with fail
    exact bodyPost_ret (v := .tuple #[.agg #[.int .i64 0, .bool false, .bool false, .int .i64 0, .int .i64 0, .int .i64 0, .int .i64 0, .int .i32 0], .bool false]) (by simp [results, Try.results40, go_sem]) rfl ⟨ret_v (decV_no _ HD.out).symm, ((Below.refl _ _).alloc (Nat.le_refl _) _).alloc (by simp) _⟩

set_option maxHeartbeats 1600000 in
theorem decode_1 (x : Int) (h0 : 0 ≤ x) (h1 : x < 4294967296) (hf : fOf x = 1) (w : World) :
    Calls Try.prog 32 #[.int .u32 x] w fun e w' => e = .returned (decV x) ∧ Below w.heap.size w w' := by
  have hR := dec_right x h0 h1
  have hED := enc_dec x h0 h1
  rw [decI_1 x hf] at hR hED
  obtain ⟨u, hu⟩ : ∃ u, u = uOf x := ⟨_, rfl⟩
  obtain ⟨v, hv⟩ : ∃ v, v = vOf x := ⟨_, rfl⟩
  obtain ⟨A, hA⟩ : ∃ A, A = aOf x := ⟨_, rfl⟩
  obtain ⟨B, hB⟩ : ∃ B, B = bOf x := ⟨_, rfl⟩
  obtain ⟨O, hO⟩ : ∃ O, O = opOf x := ⟨_, rfl⟩
  obtain ⟨M, hM⟩ : ∃ M, M = x % 65536 := ⟨_, rfl⟩
  have f24 := fun W => field_24 x h0 h1 W
  rw [← hA] at f24
  have F24 := Lib.hid f24
  clear f24
  have f20 := fun W => field_20 x h0 h1 W
  rw [← hB] at f20
  have F20 := Lib.hid f20
  clear f20
  have f16 := fun W => field_16 x h0 h1 W
  rw [← hO] at f16
  have F16 := Lib.hid f16
  clear f16
  rw [← hu, ← hv, ← hA, ← hB, ← hO, ← hM] at hR hED
  have hE := fun W => enc_1 u v A B O M hR.1 hR.2.1 hR.2.2.2.1 (by rw [hM]; omega) (by rw [hM]; omega) W
  simp only [insV] at hE
  obtain ⟨E, hEE⟩ : ∃ E, E = encW ⟨1, u, v, A, B, 0, O, M⟩ := ⟨_, rfl⟩
  rw [← hEE] at hE hED
  have eu : (x / 536870912 % 2 == 1) = u := hu.symm
  have ev : (x / 268435456 % 2 == 1) = v := hv.symm
  have ef : x / 1073741824 = 1 := hf
  have em : x % 65536 = M := hM.symm
  have m0 : 0 ≤ M := by omega
  have m1 : M < 65536 := by omega
  have HI := Lib.hid (show insV (decI x) = insV ⟨1, u, v, A, B, 0, O, M⟩ from by rw [decI_1 x hf, hu, hv, hA, hB, hO, hM])
  have HE := Lib.hid hE
  have HED := Lib.hid hED
  clear hR hED hu hv hA hB hO hM hE hEE hf
  go_enter Try.func32, Try.ntmps32
  go_wp2_with (first | (go_at_call 45; with_reducible refine (F24.out _).mono ?_; rintro e w1 ⟨rfl, rfl⟩) | (go_at_call 45; with_reducible refine (F20.out _).mono ?_; rintro e w1 ⟨rfl, rfl⟩) | (go_at_call 45; with_reducible refine (F16.out _).mono ?_; rintro e w1 ⟨rfl, rfl⟩))
  refine (HE.out _).mono ?_; rintro e w1 ⟨rfl, hb1⟩
  obtain ⟨k0, k1⟩ := bcell hb1
  have hz := hb1.size
  have hb2 := decode_below _ _ hb1
  have HS := Lib.hid (decode_some _ hb1)
  cases hd : decOk x with
  | true =>
    obtain rfl : E = x := HED.out.2 hd
    have HD := Lib.hid hd
    have HB2 := Lib.hid hb2
    clear hd hb2
    go_wp2_with fail
    exact bodyPost_ret (v := .tuple #[insV ⟨1, u, v, A, B, 0, O, M⟩, .bool true]) (by simp [results, insV, Try.results32, go_sem, HS.out 0, HS.out 1, HS.out 2, HS.out 3, HS.out 4, HS.out 5, HS.out 6, HS.out 7]) rfl ⟨ret_v (by rw [decV_yes _ HD.out, HI.out]), below_set8' HB2.out _ _ _ _ _ _ _ _⟩
  | false =>
    have hne : (E == x) = false := by
      rw [beq_eq_false_iff_ne]
      intro h
      have := HED.out.1 h
      rw [hd] at this; cases this
    have HD := Lib.hid hd
    have HB2 := Lib.hid hb2
    clear hd hb2
    go_wp2_with fail
    exact bodyPost_ret (v := .tuple #[.agg #[.int .i64 0, .bool false, .bool false, .int .i64 0, .int .i64 0, .int .i64 0, .int .i64 0, .int .i32 0], .bool false]) (by simp [results, Try.results32, go_sem, HS.out 0, HS.out 1, HS.out 2, HS.out 3, HS.out 4, HS.out 5, HS.out 6, HS.out 7]) rfl ⟨ret_v (decV_no _ HD.out).symm, below_set8' HB2.out _ _ _ _ _ _ _ _⟩

set_option maxHeartbeats 1600000 in
theorem rdecode_1 (x : Int) (h0 : 0 ≤ x) (h1 : x < 4294967296) (hf : fOf x = 1) (w : World) :
    Calls Try.prog 40 #[.int .u32 x] w fun e w' => e = .returned (decV x) ∧ Below w.heap.size w w' := by
  have hOK := decOk_1 x (.inl hf)
  obtain ⟨u, hu⟩ : ∃ u, u = uOf x := ⟨_, rfl⟩
  obtain ⟨v, hv⟩ : ∃ v, v = vOf x := ⟨_, rfl⟩
  obtain ⟨A, hA⟩ : ∃ A, A = aOf x := ⟨_, rfl⟩
  obtain ⟨B, hB⟩ : ∃ B, B = bOf x := ⟨_, rfl⟩
  obtain ⟨O, hO⟩ : ∃ O, O = opOf x := ⟨_, rfl⟩
  obtain ⟨M, hM⟩ : ∃ M, M = x % 65536 := ⟨_, rfl⟩
  have eu : (x / 536870912 % 2 == 1) = u := hu.symm
  have ev : (x / 268435456 % 2 == 1) = v := hv.symm
  have ef : x / 1073741824 = 1 := hf
  have em : x % 65536 = M := hM.symm
  have m0 : 0 ≤ M := by omega
  have m1 : M < 65536 := by omega
  have ea : x / 16777216 % 16 = A := hA.symm
  have eb : x / 1048576 % 16 = B := hB.symm
  have eo : x / 65536 % 16 = O := hO.symm
  have HI := Lib.hid (show insV (decI x) = insV ⟨1, u, v, A, B, 0, O, M⟩ from by rw [decI_1 x hf, hu, hv, hA, hB, hO, hM])
  have HOK := Lib.hid hOK
  clear hOK hu hv hA hB hO hM hf
  have HD := Lib.hid (show decOk x = true from HOK.out)
  go_enter Try.func40, Try.ntmps40
  go_wp2_with fail
  exact bodyPost_ret (v := .tuple #[insV ⟨1, u, v, A, B, 0, O, M⟩, .bool true]) (by simp [results, insV, Try.results40, go_sem]) rfl ⟨ret_v (by rw [decV_yes _ HD.out, HI.out]), ((Below.refl _ _).alloc (Nat.le_refl _) _).alloc (by simp) _⟩

set_option maxHeartbeats 1600000 in
theorem decode_2 (x : Int) (h0 : 0 ≤ x) (h1 : x < 4294967296) (hf : fOf x = 2) (w : World) :
    Calls Try.prog 32 #[.int .u32 x] w fun e w' => e = .returned (decV x) ∧ Below w.heap.size w w' := by
  have hR := dec_right x h0 h1
  have hED := enc_dec x h0 h1
  rw [decI_2 x hf] at hR hED
  obtain ⟨u, hu⟩ : ∃ u, u = uOf x := ⟨_, rfl⟩
  obtain ⟨v, hv⟩ : ∃ v, v = vOf x := ⟨_, rfl⟩
  obtain ⟨A, hA⟩ : ∃ A, A = aOf x := ⟨_, rfl⟩
  obtain ⟨B, hB⟩ : ∃ B, B = bOf x := ⟨_, rfl⟩
  obtain ⟨M, hM⟩ : ∃ M, M = ext20 x := ⟨_, rfl⟩
  have f24 := fun W => field_24 x h0 h1 W
  rw [← hA] at f24
  have F24 := Lib.hid f24
  clear f24
  have f20 := fun W => field_20 x h0 h1 W
  rw [← hB] at f20
  have F20 := Lib.hid f20
  clear f20
  have fe := fun W => extend_20 x h0 h1 W
  rw [← hM] at fe
  have FE := Lib.hid fe
  clear fe
  rw [← hu, ← hv, ← hA, ← hB, ← hM] at hR hED
  have hE := fun W => enc_2 u v A B M hR.1 hR.2.1 (by rw [hM]; exact (ext20_in x).1) (by rw [hM]; exact (ext20_in x).2) W
  simp only [insV] at hE
  obtain ⟨E, hEE⟩ : ∃ E, E = encW ⟨2, u, v, A, B, 0, 0, M⟩ := ⟨_, rfl⟩
  rw [← hEE] at hE hED
  have eu : (x / 536870912 % 2 == 1) = u := hu.symm
  have ev : (x / 268435456 % 2 == 1) = v := hv.symm
  have ef : x / 1073741824 = 2 := hf
  have HI := Lib.hid (show insV (decI x) = insV ⟨2, u, v, A, B, 0, 0, M⟩ from by rw [decI_2 x hf, hu, hv, hA, hB, hM])
  have HE := Lib.hid hE
  have HED := Lib.hid hED
  clear hR hED hu hv hA hB hM hE hEE hf
  go_enter Try.func32, Try.ntmps32
  go_wp2_with (first | (go_at_call 45; with_reducible refine (F24.out _).mono ?_; rintro e w1 ⟨rfl, rfl⟩) | (go_at_call 45; with_reducible refine (F20.out _).mono ?_; rintro e w1 ⟨rfl, rfl⟩) | (go_at_call 46; refine (FE.out _).mono ?_; rintro e w1 ⟨rfl, rfl⟩))
  refine (HE.out _).mono ?_; rintro e w1 ⟨rfl, hb1⟩
  obtain ⟨k0, k1⟩ := bcell hb1
  have hz := hb1.size
  have hb2 := decode_below _ _ hb1
  have HS := Lib.hid (decode_some _ hb1)
  cases hd : decOk x with
  | true =>
    obtain rfl : E = x := HED.out.2 hd
    have HD := Lib.hid hd
    have HB2 := Lib.hid hb2
    clear hd hb2
    go_wp2_with fail
    exact bodyPost_ret (v := .tuple #[insV ⟨2, u, v, A, B, 0, 0, M⟩, .bool true]) (by simp [results, insV, Try.results32, go_sem, HS.out 0, HS.out 1, HS.out 2, HS.out 3, HS.out 4, HS.out 5, HS.out 6, HS.out 7]) rfl ⟨ret_v (by rw [decV_yes _ HD.out, HI.out]), below_set8' HB2.out _ _ _ _ _ _ _ _⟩
  | false =>
    have hne : (E == x) = false := by
      rw [beq_eq_false_iff_ne]
      intro h
      have := HED.out.1 h
      rw [hd] at this; cases this
    have HD := Lib.hid hd
    have HB2 := Lib.hid hb2
    clear hd hb2
    go_wp2_with fail
    exact bodyPost_ret (v := .tuple #[.agg #[.int .i64 0, .bool false, .bool false, .int .i64 0, .int .i64 0, .int .i64 0, .int .i64 0, .int .i32 0], .bool false]) (by simp [results, Try.results32, go_sem, HS.out 0, HS.out 1, HS.out 2, HS.out 3, HS.out 4, HS.out 5, HS.out 6, HS.out 7]) rfl ⟨ret_v (decV_no _ HD.out).symm, below_set8' HB2.out _ _ _ _ _ _ _ _⟩

set_option maxHeartbeats 1600000 in
theorem rdecode_2 (x : Int) (h0 : 0 ≤ x) (h1 : x < 4294967296) (hf : fOf x = 2) (w : World) :
    Calls Try.prog 40 #[.int .u32 x] w fun e w' => e = .returned (decV x) ∧ Below w.heap.size w w' := by
  have hOK := decOk_1 x (.inr hf)
  obtain ⟨u, hu⟩ : ∃ u, u = uOf x := ⟨_, rfl⟩
  obtain ⟨v, hv⟩ : ∃ v, v = vOf x := ⟨_, rfl⟩
  obtain ⟨A, hA⟩ : ∃ A, A = aOf x := ⟨_, rfl⟩
  obtain ⟨B, hB⟩ : ∃ B, B = bOf x := ⟨_, rfl⟩
  obtain ⟨M, hM⟩ : ∃ M, M = ext20 x := ⟨_, rfl⟩
  have eu : (x / 536870912 % 2 == 1) = u := hu.symm
  have ev : (x / 268435456 % 2 == 1) = v := hv.symm
  have ef : x / 1073741824 = 2 := hf
  have ea : x / 16777216 % 16 = A := hA.symm
  have eb : x / 1048576 % 16 = B := hB.symm
  have fe := fun W => signed_20 (x % 1048576) (by omega) (by omega) W
  rw [ext20_of_mod, ← hM] at fe
  have FE := Lib.hid fe
  clear fe
  have HI := Lib.hid (show insV (decI x) = insV ⟨2, u, v, A, B, 0, 0, M⟩ from by rw [decI_2 x hf, hu, hv, hA, hB, hM])
  have HOK := Lib.hid hOK
  clear hOK hu hv hA hB hM hf
  have HD := Lib.hid (show decOk x = true from HOK.out)
  go_enter Try.func40, Try.ntmps40
  go_wp2_with (go_at_call 57; refine (FE.out _).mono ?_; rintro e w1 ⟨rfl, rfl⟩)
  exact bodyPost_ret (v := .tuple #[insV ⟨2, u, v, A, B, 0, 0, M⟩, .bool true]) (by simp [results, insV, Try.results40, go_sem]) rfl ⟨ret_v (by rw [decV_yes _ HD.out, HI.out]), ((Below.refl _ _).alloc (Nat.le_refl _) _).alloc (by simp) _⟩

set_option maxHeartbeats 1600000 in
theorem decode_3 (x : Int) (h0 : 0 ≤ x) (h1 : x < 4294967296) (hf : fOf x = 3) (hu : uOf x = true) (w : World) :
    Calls Try.prog 32 #[.int .u32 x] w fun e w' => e = .returned (decV x) ∧ Below w.heap.size w w' := by
  have hR := dec_right x h0 h1
  have hED := enc_dec x h0 h1
  rw [decI_3 x hf hu] at hR hED
  obtain ⟨v, hv⟩ : ∃ v, v = vOf x := ⟨_, rfl⟩
  obtain ⟨A, hA⟩ : ∃ A, A = aOf x := ⟨_, rfl⟩
  obtain ⟨M, hM⟩ : ∃ M, M = ext24 x := ⟨_, rfl⟩
  have f24 := fun W => field_24 x h0 h1 W
  rw [← hA] at f24
  have F24 := Lib.hid f24
  clear f24
  have fe := fun W => extend_24 x h0 h1 W
  rw [← hM] at fe
  have FE := Lib.hid fe
  clear fe
  rw [← hv, ← hA, ← hM] at hR hED
  have hE := fun W => enc_3 v A M hR.1 (by rw [hM]; exact (ext24_in x).1) (by rw [hM]; exact (ext24_in x).2) W
  simp only [insV] at hE
  obtain ⟨E, hEE⟩ : ∃ E, E = encW ⟨3, true, v, A, 0, 0, 0, M⟩ := ⟨_, rfl⟩
  rw [← hEE] at hE hED
  have eu : (x / 536870912 % 2 == 1) = true := hu
  have ev : (x / 268435456 % 2 == 1) = v := hv.symm
  have ef : x / 1073741824 = 3 := hf
  have HI := Lib.hid (show insV (decI x) = insV ⟨3, true, v, A, 0, 0, 0, M⟩ from by rw [decI_3 x hf hu, hv, hA, hM])
  have HE := Lib.hid hE
  have HED := Lib.hid hED
  clear hR hED hv hA hM hE hEE hf hu
  go_enter Try.func32, Try.ntmps32
  go_wp2_with (first | (go_at_call 45; with_reducible refine (F24.out _).mono ?_; rintro e w1 ⟨rfl, rfl⟩) | (go_at_call 46; refine (FE.out _).mono ?_; rintro e w1 ⟨rfl, rfl⟩))
  refine (HE.out _).mono ?_; rintro e w1 ⟨rfl, hb1⟩
  obtain ⟨k0, k1⟩ := bcell hb1
  have hz := hb1.size
  have hb2 := decode_below _ _ hb1
  have HS := Lib.hid (decode_some _ hb1)
  cases hd : decOk x with
  | true =>
    obtain rfl : E = x := HED.out.2 hd
    have HD := Lib.hid hd
    have HB2 := Lib.hid hb2
    clear hd hb2
    go_wp2_with fail
    exact bodyPost_ret (v := .tuple #[insV ⟨3, true, v, A, 0, 0, 0, M⟩, .bool true]) (by simp [results, insV, Try.results32, go_sem, HS.out 0, HS.out 1, HS.out 2, HS.out 3, HS.out 4, HS.out 5, HS.out 6, HS.out 7]) rfl ⟨ret_v (by rw [decV_yes _ HD.out, HI.out]), below_set8' HB2.out _ _ _ _ _ _ _ _⟩
  | false =>
    have hne : (E == x) = false := by
      rw [beq_eq_false_iff_ne]
      intro h
      have := HED.out.1 h
      rw [hd] at this; cases this
    have HD := Lib.hid hd
    have HB2 := Lib.hid hb2
    clear hd hb2
    go_wp2_with fail
    exact bodyPost_ret (v := .tuple #[.agg #[.int .i64 0, .bool false, .bool false, .int .i64 0, .int .i64 0, .int .i64 0, .int .i64 0, .int .i32 0], .bool false]) (by simp [results, Try.results32, go_sem, HS.out 0, HS.out 1, HS.out 2, HS.out 3, HS.out 4, HS.out 5, HS.out 6, HS.out 7]) rfl ⟨ret_v (decV_no _ HD.out).symm, below_set8' HB2.out _ _ _ _ _ _ _ _⟩

set_option maxHeartbeats 1600000 in
theorem rdecode_3 (x : Int) (h0 : 0 ≤ x) (h1 : x < 4294967296) (hf : fOf x = 3) (hu : uOf x = true) (w : World) :
    Calls Try.prog 40 #[.int .u32 x] w fun e w' => e = .returned (decV x) ∧ Below w.heap.size w w' := by
  have hOK := decOk_3 x hf hu
  obtain ⟨v, hv⟩ : ∃ v, v = vOf x := ⟨_, rfl⟩
  obtain ⟨A, hA⟩ : ∃ A, A = aOf x := ⟨_, rfl⟩
  obtain ⟨M, hM⟩ : ∃ M, M = ext24 x := ⟨_, rfl⟩
  have eu : (x / 536870912 % 2 == 1) = true := hu
  have ev : (x / 268435456 % 2 == 1) = v := hv.symm
  have ef : x / 1073741824 = 3 := hf
  have ea : x / 16777216 % 16 = A := hA.symm
  have fe := fun W => signed_24 (x % 16777216) (by omega) (by omega) W
  rw [ext24_of_mod, ← hM] at fe
  have FE := Lib.hid fe
  clear fe
  have HI := Lib.hid (show insV (decI x) = insV ⟨3, true, v, A, 0, 0, 0, M⟩ from by rw [decI_3 x hf hu, hv, hA, hM])
  have HOK := Lib.hid hOK
  clear hOK hv hA hM hf hu
  have HD := Lib.hid (show decOk x = true from HOK.out)
  go_enter Try.func40, Try.ntmps40
  go_wp2_with (go_at_call 57; refine (FE.out _).mono ?_; rintro e w1 ⟨rfl, rfl⟩)
  exact bodyPost_ret (v := .tuple #[insV ⟨3, true, v, A, 0, 0, 0, M⟩, .bool true]) (by simp [results, insV, Try.results40, go_sem]) rfl ⟨ret_v (by rw [decV_yes _ HD.out, HI.out]), ((Below.refl _ _).alloc (Nat.le_refl _) _).alloc (by simp) _⟩

set_option maxHeartbeats 1600000 in
theorem decode_4 (x : Int) (h0 : 0 ≤ x) (h1 : x < 4294967296) (hf : fOf x = 3) (hu : uOf x = false) (w : World) :
    Calls Try.prog 32 #[.int .u32 x] w fun e w' => e = .returned (decV x) ∧ Below w.heap.size w w' := by
  have hR := dec_right x h0 h1
  have hED := enc_dec x h0 h1
  rw [decI_4 x hf hu] at hR hED
  obtain ⟨v, hv⟩ : ∃ v, v = vOf x := ⟨_, rfl⟩
  obtain ⟨A, hA⟩ : ∃ A, A = aOf x := ⟨_, rfl⟩
  obtain ⟨C, hC⟩ : ∃ C, C = cOf x := ⟨_, rfl⟩
  obtain ⟨M, hM⟩ : ∃ M, M = x / 16 % 16 := ⟨_, rfl⟩
  have f24 := fun W => field_24 x h0 h1 W
  rw [← hA] at f24
  have F24 := Lib.hid f24
  clear f24
  have f0 := fun W => field_0 x h0 h1 W
  rw [← hC] at f0
  have F0 := Lib.hid f0
  clear f0
  have f4 := fun W => field_4 x h0 h1 W
  rw [← hM] at f4
  have F4 := Lib.hid f4
  clear f4
  rw [← hv, ← hA, ← hC, ← hM] at hR hED
  have hE := fun W => enc_4 v A C M hR.1 hR.2.2.1 (by rw [hM]; omega) (by rw [hM]; omega) W
  simp only [insV] at hE
  obtain ⟨E, hEE⟩ : ∃ E, E = encW ⟨3, false, v, A, 0, C, 0, M⟩ := ⟨_, rfl⟩
  rw [← hEE] at hE hED
  have eu : (x / 536870912 % 2 == 1) = false := hu
  have ev : (x / 268435456 % 2 == 1) = v := hv.symm
  have ef : x / 1073741824 = 3 := hf
  have m0 : 0 ≤ M := by omega
  have m1 : M < 16 := by omega
  have HI := Lib.hid (show insV (decI x) = insV ⟨3, false, v, A, 0, C, 0, M⟩ from by rw [decI_4 x hf hu, hv, hA, hC, hM])
  have HE := Lib.hid hE
  have HED := Lib.hid hED
  clear hR hED hv hA hC hM hE hEE hf hu
  go_enter Try.func32, Try.ntmps32
  go_wp2_with (first | (go_at_call 45; with_reducible refine (F24.out _).mono ?_; rintro e w1 ⟨rfl, rfl⟩) | (go_at_call 45; with_reducible refine (F0.out _).mono ?_; rintro e w1 ⟨rfl, rfl⟩) | (go_at_call 45; with_reducible refine (F4.out _).mono ?_; rintro e w1 ⟨rfl, rfl⟩))
  refine (HE.out _).mono ?_; rintro e w1 ⟨rfl, hb1⟩
  obtain ⟨k0, k1⟩ := bcell hb1
  have hz := hb1.size
  have hb2 := decode_below _ _ hb1
  have HS := Lib.hid (decode_some _ hb1)
  cases hd : decOk x with
  | true =>
    obtain rfl : E = x := HED.out.2 hd
    have HD := Lib.hid hd
    have HB2 := Lib.hid hb2
    clear hd hb2
    go_wp2_with fail
    exact bodyPost_ret (v := .tuple #[insV ⟨3, false, v, A, 0, C, 0, M⟩, .bool true]) (by simp [results, insV, Try.results32, go_sem, HS.out 0, HS.out 1, HS.out 2, HS.out 3, HS.out 4, HS.out 5, HS.out 6, HS.out 7]) rfl ⟨ret_v (by rw [decV_yes _ HD.out, HI.out]), below_set8' HB2.out _ _ _ _ _ _ _ _⟩
  | false =>
    have hne : (E == x) = false := by
      rw [beq_eq_false_iff_ne]
      intro h
      have := HED.out.1 h
      rw [hd] at this; cases this
    have HD := Lib.hid hd
    have HB2 := Lib.hid hb2
    clear hd hb2
    go_wp2_with fail
    exact bodyPost_ret (v := .tuple #[.agg #[.int .i64 0, .bool false, .bool false, .int .i64 0, .int .i64 0, .int .i64 0, .int .i64 0, .int .i32 0], .bool false]) (by simp [results, Try.results32, go_sem, HS.out 0, HS.out 1, HS.out 2, HS.out 3, HS.out 4, HS.out 5, HS.out 6, HS.out 7]) rfl ⟨ret_v (decV_no _ HD.out).symm, below_set8' HB2.out _ _ _ _ _ _ _ _⟩

set_option maxHeartbeats 1600000 in
theorem rdecode_4 (x : Int) (h0 : 0 ≤ x) (h1 : x < 4294967296) (hf : fOf x = 3) (hu : uOf x = false) (w : World) :
    Calls Try.prog 40 #[.int .u32 x] w fun e w' => e = .returned (decV x) ∧ Below w.heap.size w w' := by
  have hOK := decOk_4 x hf hu
  obtain ⟨v, hv⟩ : ∃ v, v = vOf x := ⟨_, rfl⟩
  obtain ⟨A, hA⟩ : ∃ A, A = aOf x := ⟨_, rfl⟩
  obtain ⟨C, hC⟩ : ∃ C, C = cOf x := ⟨_, rfl⟩
  obtain ⟨M, hM⟩ : ∃ M, M = x / 16 % 16 := ⟨_, rfl⟩
  have eu : (x / 536870912 % 2 == 1) = false := hu
  have ev : (x / 268435456 % 2 == 1) = v := hv.symm
  have ef : x / 1073741824 = 3 := hf
  have m0 : 0 ≤ M := by omega
  have m1 : M < 16 := by omega
  have ea : x / 16777216 % 16 = A := hA.symm
  have ec : x % 16 = C := hC.symm
  have em : x / 16 % 16 = M := hM.symm
  have HI := Lib.hid (show insV (decI x) = insV ⟨3, false, v, A, 0, C, 0, M⟩ from by rw [decI_4 x hf hu, hv, hA, hC, hM])
  have HOK := Lib.hid hOK
  clear hOK hv hA hC hM hf hu
  have hmm := mask_mid2 x h0 h1
  obtain ⟨y, hy⟩ : ∃ y, y = x / 256 % 65536 := ⟨_, rfl⟩
  have hok := HOK.out
  rw [← hy] at hmm hok
  have y0 : 0 ≤ y := by omega
  have HY := Lib.hid hy
  clear hy
  by_cases hz : y = 0
  · have HD := Lib.hid (show decOk x = true from by rw [hok, hz]; rfl)
    subst hz
    clear hok
    go_enter Try.func40, Try.ntmps40
    go_wp2_with fail
    exact bodyPost_ret (v := .tuple #[insV ⟨3, false, v, A, 0, C, 0, M⟩, .bool true]) (by simp [results, insV, Try.results40, go_sem]) rfl ⟨ret_v (by rw [decV_yes _ HD.out, HI.out]), ((Below.refl _ _).alloc (Nat.le_refl _) _).alloc (by simp) _⟩
  · have hz2 : (y * 256 == 0) = false := by simp; omega
    have hz3 : (y == 0) = false := by simp [hz]
    have HD := Lib.hid (show decOk x = false from by rw [hok, hz3])
    clear hok hz
    go_enter Try.func40, Try.ntmps40
    go_wp2_with fail
    exact bodyPost_ret (v := .tuple #[.agg #[.int .i64 0, .bool false, .bool false, .int .i64 0, .int .i64 0, .int .i64 0, .int .i64 0, .int .i32 0], .bool false]) (by simp [results, Try.results40, go_sem]) rfl ⟨ret_v (decV_no _ HD.out).symm, ((Below.refl _ _).alloc (Nat.le_refl _) _).alloc (by simp) _⟩

theorem decode_any (x : Int) (h0 : 0 ≤ x) (h1 : x < 4294967296) (w : World) : Calls Try.prog 32 #[.int .u32 x] w fun e w' => e = .returned (decV x) ∧ Below w.heap.size w w' := by
  rcases fOf_in x h0 h1 with h | h | h | h
  · exact decode_0 x h0 h1 h w
  · exact decode_1 x h0 h1 h w
  · exact decode_2 x h0 h1 h w
  · cases hu : uOf x
    · exact decode_4 x h0 h1 h hu w
    · exact decode_3 x h0 h1 h hu w
theorem rdecode_any (x : Int) (h0 : 0 ≤ x) (h1 : x < 4294967296) (w : World) : Calls Try.prog 40 #[.int .u32 x] w fun e w' => e = .returned (decV x) ∧ Below w.heap.size w w' := by
  rcases fOf_in x h0 h1 with h | h | h | h
  · exact rdecode_0 x h0 h1 h w
  · exact rdecode_1 x h0 h1 h w
  · exact rdecode_2 x h0 h1 h w
  · cases hu : uOf x
    · exact rdecode_4 x h0 h1 h hu w
    · exact rdecode_3 x h0 h1 h hu w
end Go.Proofs.Ytflinbfobadheaa
