/- Trees: variables that are small. -/
import Derived.Test.YtipcnkgojonmjaaTr10
namespace Go.Proofs.Ytipcnkgojonmjaa
open Go.RowKit Go.Waf
set_option maxRecDepth 100000
set_option linter.unusedVariables false
set_option linter.unusedSimpArgs false

def vrB (e : Vr) : Bool := nmB e.name && smTy 8 e.t
def smVars (n : Nat) (x : Nat → Vr) : Bool := few n && !anyB (fun j => !vrB (x j)) n
set_option maxHeartbeats 3200000 in
theorem not_var (w : World) (e : Vr) (u : Value) (hok : TyOk w e.t u) :
    Calls Try.prog 61 #[vrV e u] w fun en w' => en = .returned (.bool (!vrB e)) ∧ Below w.heap.size w w' := by
  have HT := Lib.hid (fun W (hb : Below w.heap.size w W) => smallType_prog 8 (by omega) e.t W u (TyOk.below hb (Nat.le_refl _) _ _ hok))
  have HN := Lib.hid (fun w => name_prog w e.name)
  obtain ⟨ua, uc, rfl, _, _⟩ := hok.shape
  have HR := Lib.hid (show vrB e = (nmB e.name && smTy 8 e.t) from rfl)
  obtain ⟨B1, hB1⟩ : ∃ b, b = nmB e.name := ⟨_, rfl⟩
  obtain ⟨B2, hB2⟩ : ∃ b, b = smTy 8 e.t := ⟨_, rfl⟩
  obtain ⟨R, hR⟩ : ∃ b, b = vrB e := ⟨_, rfl⟩
  rw [← hR, ← hB1, ← hB2] at HR
  rw [← hR]
  simp only [← hB1] at HN
  simp only [← hB2] at HT
  unfold tyV at HT
  unfold vrV
  obtain ⟨w1, hw1⟩ : ∃ w1 : World, w1 = w.alloc (.cells #[.string e.name, .bool e.ex, .int .i64 e.t.form, .int .i64 e.t.num, .string e.t.name, .slice ua e.t.k uc] 43) := ⟨_, rfl⟩
  have hb1 : Below w.heap.size w w1 := by rw [hw1]; exact (Below.refl _ _).alloc (Nat.le_refl _) _
  have hz := (show w1.heap[w.heap.size]? = some (.cells #[.string e.name, .bool e.ex, .int .i64 e.t.form, .int .i64 e.t.num, .string e.t.name, .slice ua e.t.k uc] 43 (0, 0)) from by rw [hw1]; exact heap_alloc_new w _)
  have c0 := rowC hz 0 _
  have c2 := rowC hz 2 _
  have c3 := rowC hz 3 _
  have c4 := rowC hz 4 _
  have c5 := rowC hz 5 _
  have HW1 := Lib.hid hw1
  have HB1 := Lib.hid hb1
  clear hw1 hb1 hz hB1 hB2 hR hok
  cases B1
  · obtain rfl : R = false := by rw [HR.out]; rfl
    go_enter Try.func61, Try.ntmps61
    go_wp2_with fail
    rw [← HW1.out]
    refine (HN.out _).mono ?_
    rintro en w2 ⟨rfl, rfl⟩
    go_wp2_with fail
    go_ret
    exact ⟨rfl, HB1.out⟩
  · obtain rfl : R = B2 := by rw [HR.out]; rfl
    go_enter Try.func61, Try.ntmps61
    go_wp2_with fail
    rw [← HW1.out]
    refine (HN.out _).mono ?_
    rintro en w2 ⟨rfl, rfl⟩
    go_wp2_with fail
    refine (HT.out _ HB1.out).mono ?_
    rintro en w3 ⟨rfl, hb2⟩
    have HB2 := Lib.hid (HB1.out.trans (hb2.mono HB1.out.size))
    clear hb2
    go_wp2_with fail
    go_ret
    exact ⟨rfl, HB2.out⟩
set_option maxHeartbeats 3200000 in
theorem smallVars_prog (w : World) (a : Option Addr) (n c : Nat) (x : Nat → Vr) (h1 : n ≤ c) (h2 : c ≤ 9223372036854775807) (hx : VrsAt w a n x) :
    Calls Try.prog 16 #[.slice a n c] w fun en w' => en = .returned (.bool (smVars n x)) ∧ Below w.heap.size w w' := by
  have HL := Lib.hid (fun w => list_prog w n)
  have HC := Lib.hid (contains_Vr w 61 a n c x (fun j => !vrB (x j)) hx h1 h2 (fun W j u hj hok hb => not_var W (x j) u hok) (enters_of Try.func61 (by kernel_rfl) rfl))
  have HR := Lib.hid (show smVars n x = (few n && !anyB (fun j => !vrB (x j)) n) from rfl)
  obtain ⟨B1, hB1⟩ : ∃ b, b = few n := ⟨_, rfl⟩
  obtain ⟨B2, hB2⟩ : ∃ b, b = anyB (fun j => !vrB (x j)) n := ⟨_, rfl⟩
  obtain ⟨R, hR⟩ : ∃ b, b = smVars n x := ⟨_, rfl⟩
  rw [← hR, ← hB1, ← hB2] at HR
  rw [← hR]
  simp only [← hB1] at HL
  rw [← hB2] at HC
  clear hB1 hB2 hR hx
  cases B1
  · obtain rfl : R = false := by rw [HR.out]; rfl
    go_enter Try.func16, Try.ntmps16
    go_wp2_with fail
    refine (HL.out _).mono ?_
    rintro en w2 ⟨rfl, rfl⟩
    go_wp2_with fail
    go_ret
    exact ⟨rfl, Below.refl _ _⟩
  · have HR2 := Lib.hid (show R = !B2 from by rw [HR.out]; rfl)
    go_enter Try.func16, Try.ntmps16
    go_wp2_with fail
    refine (HL.out _).mono ?_
    rintro en w2 ⟨rfl, rfl⟩
    go_wp2_with fail
    refine HC.out.mono ?_
    rintro en w3 ⟨rfl, hb2⟩
    have HB2 := Lib.hid hb2
    clear hb2
    go_wp2_with fail
    go_ret
    exact ⟨by rw [HR2.out]; rfl, HB2.out⟩
set_option maxHeartbeats 3200000 in
theorem smallVars_ref (w : World) (a : Option Addr) (n c : Nat) (x : Nat → Vr) (h1 : n ≤ c) (h2 : c ≤ 9223372036854775807) (hx : VrsAt w a n x) :
    Calls Try.prog 29 #[.slice a n c] w fun en w' => en = .returned (.bool (smVars n x)) ∧ Below w.heap.size w w' := by
  have HL := Lib.hid (fun w => few_ref w n)
  have HR := Lib.hid (show smVars n x = (few n && !anyB (fun j => !vrB (x j)) n) from rfl)
  obtain ⟨P, hP⟩ : ∃ P : Nat → Bool, P = fun j => !vrB (x j) := ⟨_, rfl⟩
  have HPJ := Lib.hid (fun j => show P j = !(nmB (x j).name && smTy 8 (x j).t) from by rw [hP]; rfl)
  obtain ⟨B1, hB1⟩ : ∃ b, b = few n := ⟨_, rfl⟩
  obtain ⟨R, hR⟩ : ∃ b, b = smVars n x := ⟨_, rfl⟩
  rw [← hR, ← hB1, ← hP] at HR
  rw [← hR]
  simp only [← hB1] at HL
  have HX := Lib.hid hx
  clear hB1 hP hR hx
  cases B1
  · obtain rfl : R = false := by rw [HR.out]; rfl
    go_enter Try.func29, Try.ntmps29
    go_wp2_with fail
    refine (HL.out _).mono ?_
    rintro en w2 ⟨rfl, rfl⟩
    go_wp2_with fail
    go_ret
    exact ⟨rfl, Below.refl _ _⟩
  · have HR2 := Lib.hid (show R = !anyB P n from by rw [HR.out]; rfl)
    go_enter Try.func29, Try.ntmps29
    go_wp2_with fail
    refine (HL.out _).mono ?_
    rintro en w2 ⟨rfl, rfl⟩
    go_wp2_with fail
    go_loopw [3] (fun z wr => ∃ j : Nat, j ≤ n ∧ z = .int .i64 (j : Int) ∧ (∀ i, i < j → P i = false) ∧ Below w.heap.size w wr) (fun z _ => n - (intOf z).toNat)
    case atStart => exact ⟨0, by omega, rfl, fun i hi => absurd hi (by omega), Below.refl _ _⟩
    case round =>
      obtain ⟨j, hj, rfl, hno, hb⟩ := hrel
      obtain ⟨wo, rfl⟩ : ∃ wo : World, wo = wr := ⟨_, rfl⟩
      by_cases hlt : j < n
      · obtain ⟨b, o, rfl, hc⟩ := HX.out (by omega)
        obtain ⟨u, hok, p0, p1, p2, p3, p4, p5⟩ := hc j hlt
        have d0 := cell_below hb (Nat.le_refl _) p0
        have d2 := cell_below hb (Nat.le_refl _) p2
        have d3 := cell_below hb (Nat.le_refl _) p3
        have d4 := cell_below hb (Nat.le_refl _) p4
        have d5 := cell_below hb (Nat.le_refl _) p5
        have HT := Lib.hid (smallType_ref 8 (by omega) (x j).t wo u (TyOk.below hb (Nat.le_refl _) _ _ hok))
        have hpj := HPJ.out j
        obtain ⟨ua, uc, rfl, _, _⟩ := hok.shape
        obtain ⟨E, hE⟩ : ∃ E, E = x j := ⟨_, rfl⟩
        rw [← hE] at HT hpj d0 d2 d3 d4 d5
        obtain ⟨s, hs⟩ : ∃ s, s = E.name := ⟨_, rfl⟩
        rw [← hs] at hpj d0
        obtain ⟨SB, hSB⟩ : ∃ d, d = smTy 8 E.t := ⟨_, rfl⟩
        rw [← hSB] at HT hpj
        unfold tyV at HT
        have HB := Lib.hid hb
        have HNO := Lib.hid hno
        have HPJ2 := Lib.hid hpj
        clear hc hok hno hb hE hs hSB hpj p0 p1 p2 p3 p4 p5
        by_cases h65 : s.size ≤ 65
        · have HNB := Lib.hid (show nmB s = true from by unfold nmB; simpa using h65)
          cases SB
          · have HP := Lib.hid (show R = false from by rw [HR2.out, anyB_true hlt (by rw [HPJ2.out]; simp)]; rfl)
            go_wp2_with fail
            refine HT.out.mono ?_
            rintro en w4 ⟨rfl, hb2⟩
            have HB2 := Lib.hid (HB.out.trans (hb2.mono HB.out.size))
            clear hb2
            go_wp2_with fail
            go_ret
            exact ⟨by rw [HP.out]; rfl, HB2.out⟩
          · have HP := Lib.hid (show P j = false from by rw [HPJ2.out, HNB.out]; rfl)
            go_wp2_with fail
            refine HT.out.mono ?_
            rintro en w4 ⟨rfl, hb2⟩
            have HB2 := Lib.hid (HB.out.trans (hb2.mono HB.out.size))
            clear hb2
            go_wp2_with fail
            go_roundw
            case rel => exact ⟨j + 1, by omega, by go_num, fun i hi => by
              rcases Nat.lt_succ_iff_lt_or_eq.1 hi with h | h
              · exact HNO.out i h
              · rw [h]; exact HP.out, HB2.out⟩
            case measure => simp [intOf]; omega
        · have HP := Lib.hid (show R = false from by rw [HR2.out, anyB_true hlt (by rw [HPJ2.out, show nmB s = false from by unfold nmB; simpa using h65]; rfl)]; rfl)
          go_wp2_with fail
          go_ret
          exact ⟨by rw [HP.out]; rfl, HB.out⟩
      · obtain rfl : j = n := by omega
        have HP := Lib.hid (show R = true from by rw [HR2.out, anyB_false hno]; rfl)
        have HB := Lib.hid hb
        clear hno hb
        go_wp2_with fail
        go_ret
        exact ⟨by rw [HP.out]; rfl, HB.out⟩
end Go.Proofs.Ytipcnkgojonmjaa
