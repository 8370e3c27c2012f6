/- Trees: types that are small, by the reference. -/
import Derived.Test.YtipcnkgojonmjaaTr4
namespace Go.Proofs.Ytipcnkgojonmjaa
open Go.RowKit Go.Waf
set_option maxRecDepth 100000
set_option linter.unusedVariables false
set_option linter.unusedSimpArgs false

def SmTyR (d : Nat) : Prop := ∀ (t : Ty) (w : World) (v : Value), TyOk w t v → Calls Try.prog 75 #[tyV t v, .int .i64 (d : Int)] w fun en w' => en = .returned (.bool (smTy d t)) ∧ Below w.heap.size w w'
set_option maxHeartbeats 3200000 in
theorem smallType_ref : ∀ d, d ≤ 1000 → SmTyR d := by
  intro d
  induction d with
  | zero =>
    intro _ t w v hok
    obtain ⟨a, c, rfl, _, _⟩ := hok.shape
    rw [show ((0 : Nat) : Int) = 0 from rfl]
    unfold tyV
    go_enter Try.func75, Try.ntmps75
    go_wp2_with fail
    go_ret
    exact ⟨rfl, (Below.refl _ _).alloc (Nat.le_refl _) _⟩
  | succ d ih =>
    intro hd t w v hok
    obtain ⟨a, c, rfl, h1, h2, hx⟩ := hok.open
    have HD := Lib.hid (show smTy (d + 1) t = (nmB t.name && few t.k && !anyB (fun j => !smTy d (t.of j)) t.k) from rfl)
    rw [show ((d + 1 : Nat) : Int) = (d : Int) + 1 from by omega]
    unfold tyV
    have hd0 : (0 : Int) < (d : Int) + 1 := by omega
    have hd1 : (d : Int) ≤ 1000 := by omega
    have HI := Lib.hid (ih (by omega))
    have HLS := Lib.hid (fun w => few_ref w t.k)
    obtain ⟨w1, hw1⟩ : ∃ w1 : World, w1 = w.alloc (.cells #[.int .i64 t.form, .int .i64 t.num, .string t.name, .slice a t.k c] 33) := ⟨_, rfl⟩
    have hb1 : Below w.heap.size w w1 := by rw [hw1]; exact (Below.refl _ _).alloc (Nat.le_refl _) _
    have hsz1 : w1.heap.size = w.heap.size + 1 := by rw [hw1]; simp
    have hc2 : w1.cell? ⟨w.heap.size, 2, none⟩ = some (.string t.name) := rowC (by rw [hw1]; exact heap_alloc_new w _) 2 _
    have hc3 : w1.cell? ⟨w.heap.size, 3, none⟩ = some (.slice a t.k c) := rowC (by rw [hw1]; exact heap_alloc_new w _) 3 _
    have HC3 := Lib.hid hc3
    have HW1 := Lib.hid hw1
    have HB1 := Lib.hid hb1
    have HS1 := Lib.hid hsz1
    have HX := Lib.hid hx
    obtain ⟨P, hP⟩ : ∃ P : Nat → Bool, P = fun j => !smTy d (t.of j) := ⟨_, rfl⟩
    have HPJ := Lib.hid (fun j => show smTy d (t.of j) = !P j from by rw [hP]; simp)
    obtain ⟨B2, hB2⟩ : ∃ b, b = few t.k := ⟨_, rfl⟩
    obtain ⟨B4, hB4⟩ : ∃ b, b = smTy (d + 1) t := ⟨_, rfl⟩
    obtain ⟨K, hK⟩ : ∃ k, k = t.k := ⟨_, rfl⟩
    obtain ⟨s, hs⟩ : ∃ s, s = t.name := ⟨_, rfl⟩
    rw [← hB4]
    rw [← hB2] at HLS
    rw [← hP, ← hB2, ← hB4, ← hK, ← hs] at HD
    rw [← hK] at HX HC3 h1 HLS
    rw [← hK, ← hs] at HW1
    rw [← hs] at hc2
    rw [← hK] at hc3
    rw [← hK, ← hs]
    clear hP hB2 hB4 hw1 hb1 hsz1 hx ih hok hd hK hs
    by_cases hn : s.size ≤ 65
    · have HN := Lib.hid (show nmB s = true from by unfold nmB; simpa using hn)
      cases B2
      · obtain rfl : B4 = false := by rw [HD.out]; simp
        go_enter Try.func75, Try.ntmps75
        go_wp2_with fail
        rw [← HW1.out]
        refine (HLS.out _).mono ?_
        rintro en w2 ⟨rfl, rfl⟩
        go_wp2_with fail
        go_ret
        exact ⟨rfl, HB1.out⟩
      · have HD2 := Lib.hid (show B4 = !anyB P K from by rw [HD.out, HN.out]; simp)
        go_enter Try.func75, Try.ntmps75
        go_wp2_with fail
        rw [← HW1.out]
        refine (HLS.out _).mono ?_
        rintro en w2 ⟨rfl, rfl⟩
        clear hc2 hc3
        go_wp2_with fail
        go_loopw [5] (fun z wr => ∃ j : Nat, j ≤ K ∧ z = .int .i64 (j : Int) ∧ (∀ i, i < j → P i = false) ∧ Below w1.heap.size w1 wr) (fun z _ => K - (intOf z).toNat)
        case atStart => exact ⟨0, by omega, rfl, fun i hi => absurd hi (by omega), Below.refl _ _⟩
        case round =>
          obtain ⟨j, hj, rfl, hno, hb⟩ := hrel
          obtain ⟨wo, rfl⟩ : ∃ wo : World, wo = wr := ⟨_, rfl⟩
          have c3 : wo.cell? ⟨w.heap.size, 3, none⟩ = some (.slice a K c) := cell_below hb (Nat.le_refl _) HC3.out
          by_cases hlt : j < K
          · obtain ⟨b, o, rfl, hc⟩ := HX.out (by omega)
            obtain ⟨u, hok, p0, p1, p2, p3⟩ := hc j hlt
            have hb0 : Below w.heap.size w wo := HB1.out.trans (hb.mono HB1.out.size)
            have d0 := cell_below hb0 (Nat.le_refl _) p0
            have d1 := cell_below hb0 (Nat.le_refl _) p1
            have d2 := cell_below hb0 (Nat.le_refl _) p2
            have d3 := cell_below hb0 (Nat.le_refl _) p3
            have HC := Lib.hid (HI.out (t.of j) wo u (TyOk.below hb0 (Nat.le_refl _) _ _ hok))
            rw [HPJ.out j] at HC
            obtain ⟨E, hE⟩ : ∃ E, E = t.of j := ⟨_, rfl⟩
            rw [← hE] at HC d0 d1 d2
            unfold tyV at HC
            have HB := Lib.hid hb
            have HNO := Lib.hid hno
            clear hc hok hno hb hb0 p0 p1 p2 p3 hE
            cases hp : P j
            · have HP := Lib.hid hp
              rw [hp] at HC
              clear hp
              go_wp2_with fail
              refine HC.out.mono ?_
              rintro en w2 ⟨rfl, hb2⟩
              have HB2 := Lib.hid (HB.out.trans (hb2.mono HB.out.size))
              clear hb2
              go_wp2_with fail
              go_roundw
              case rel => exact ⟨j + 1, by omega, by go_num, fun i hi => by
                rcases Nat.lt_succ_iff_lt_or_eq.1 hi with h | h
                · exact HNO.out i h
                · rw [h]; exact HP.out, HB2.out⟩
              case measure => simp [intOf]; omega
            · have HP := Lib.hid (show B4 = false from by rw [HD2.out, anyB_true hlt hp]; rfl)
              rw [hp] at HC
              clear hp
              go_wp2_with fail
              refine HC.out.mono ?_
              rintro en w2 ⟨rfl, hb2⟩
              have HB2 := Lib.hid (HB.out.trans (hb2.mono HB.out.size))
              clear hb2
              go_wp2_with fail
              go_ret
              exact ⟨by rw [HP.out]; rfl, HB1.out.trans (HB2.out.mono (by rw [HS1.out]; omega))⟩
          · obtain rfl : j = K := by omega
            have HP := Lib.hid (show B4 = true from by rw [HD2.out, anyB_false hno]; rfl)
            have HB := Lib.hid hb
            clear hno hb
            go_wp2_with fail
            go_ret
            exact ⟨by rw [HP.out]; rfl, HB1.out.trans (HB.out.mono (by rw [HS1.out]; omega))⟩
    · obtain rfl : B4 = false := by rw [HD.out, show nmB s = false from by unfold nmB; simpa using hn]; rfl
      go_enter Try.func75, Try.ntmps75
      go_wp2_with fail
      rw [← HW1.out]
      go_ret
      exact ⟨rfl, HB1.out⟩
end Go.Proofs.Ytipcnkgojonmjaa
