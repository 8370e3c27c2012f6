/- Need: Check. -/
import Derived.Test.YtmidkomdmnncoaaNd15
namespace Go.Proofs.Ytmidkomdmnncoaa
open Go.RowKit Go.Waf
set_option maxRecDepth 100000
set_option linter.unusedVariables false
set_option linter.unusedSimpArgs false

def sumN (f : Nat → Nat) : Nat → Nat
  | 0 => 0
  | j + 1 => sumN f j + f j
theorem sumN_mono (f : Nat → Nat) : ∀ {k j : Nat}, j ≤ k → sumN f j ≤ sumN f k
  | 0, j, h => by obtain rfl : j = 0 := by omega
                  exact Nat.le_refl _
  | k + 1, j, h => by
    by_cases e : j = k + 1
    · subst e; exact Nat.le_refl _
    · exact Nat.le_trans (sumN_mono f (k := k) (by omega)) (Nat.le_add_right _ _)
/-- What Check may tell. -/
def Told (n : Nat) (mo sz un : Nat → Nat) (E : Int) : Prop := (E = 44 ∧ ∃ j, j < n ∧ 12 < mo j) ∨ ((∀ j, j < n → mo j ≤ 12) ∧ ((E = 45 ∧ (16384 < sumN sz n ∨ 8000 < sumN un n)) ∨ (E = 0 ∧ sumN sz n ≤ 16384 ∧ sumN un n ≤ 8000)))
set_option maxHeartbeats 12800000 in
theorem check_any (w : World) (b o n c : Nat) (M : Nat → Mo) (mo sz un : Nat → Nat) (h1 : n ≤ c) (h2 : c ≤ 9223372036854775807) (h3 : n ≤ 10) (hm : ∀ j, j < n → MoAt w b (o + j * 8) (M j)) (hmo : ∀ j, mo j ≤ 1000000) (hsz : ∀ j, sz j ≤ 1000000) (hun : ∀ j, un j ≤ 1000000)
    (HMOST : ∀ j, j < n → ∀ W, Below w.heap.size w W → Calls Try.prog 10 #[(M j).val] W fun en w' => en = .returned (.int .i64 (mo j : Int)) ∧ Below W.heap.size W w')
    (HSIZE : ∀ j, j < n → ∀ W, Below w.heap.size w W → Calls Try.prog 9 #[(M j).val, .slice (some ⟨b, o, none⟩) n c] W fun en w' => en = .returned (.tuple #[.int .i64 (sz j : Int), .bool true]) ∧ Below W.heap.size W w')
    (HUNITS : ∀ j, j < n → ∀ W, Below w.heap.size w W → Calls Try.prog 11 #[(M j).val] W fun en w' => en = .returned (.int .i64 (un j : Int)) ∧ Below W.heap.size W w') :
    Calls Try.prog 6 #[.slice (some ⟨b, o, none⟩) n c] w fun en w' => ∃ E, en = .returned (.int .i64 E) ∧ Told n mo sz un E ∧ Below w.heap.size w w' := by
  have HM := Lib.hid hm
  have HMO := Lib.hid hmo
  have HSZ := Lib.hid hsz
  have HUN := Lib.hid hun
  have HMS := Lib.hid HMOST
  have HSS := Lib.hid HSIZE
  have HUS := Lib.hid HUNITS
  clear hm hmo hsz hun HMOST HSIZE HUNITS
  go_enter Try.func6, Try.ntmps6
  go_wp2_with fail
  go_loopw [13] (fun y wr => ∃ j : Nat, j ≤ n ∧ y = .int .i64 (j : Int) ∧ (∀ i, i < j → mo i ≤ 12) ∧ Below w.heap.size w wr) (fun y _ => n - (intOf y).toNat)
  case atStart => exact ⟨0, by omega, rfl, fun i h => absurd h (by omega), Below.refl _ _⟩
  case round =>
    obtain ⟨j, hj, rfl, hal, hb⟩ := hrel
    obtain ⟨wi, rfl⟩ : ∃ wi : World, wi = wr := ⟨_, rfl⟩
    have HAL := Lib.hid hal
    have HB := Lib.hid hb
    by_cases hlt : j < n
    · obtain ⟨d0, d1, d2, d3, d4, d5, d6, d7⟩ := (HM.out j hlt).below hb
      have HC := Lib.hid (fun V hv => HMS.out j hlt V hv)
      have hmj := HMO.out j
      obtain ⟨K, hK⟩ : ∃ K, K = mo j := ⟨_, rfl⟩
      rw [← hK] at HC hmj
      obtain ⟨N, hN⟩ : ∃ N, N = M j := ⟨_, rfl⟩
      rw [← hN] at HC d0 d5 d6 d7
      have HK := Lib.hid hK
      obtain ⟨nm, va, nv, vc, pa, np, pc, ba, nb, bc⟩ := N
      have HC := Lib.hid (show ∀ V, Below w.heap.size w V → Calls Try.prog 10 #[.agg #[.string nm, .slice none 0 0, .slice none 0 0, .slice none 0 0, .slice none 0 0, .slice va nv vc, .slice pa np pc, .slice ba nb bc]] V fun en w' => en = .returned (.int .i64 (K : Int)) ∧ Below V.heap.size V w' from fun V hv => HC.out V hv)
      have e0 : wi.cell? ⟨b, o + j * 8, none⟩ = some (.string nm) := d0
      have e5 : wi.cell? ⟨b, o + j * 8 + 5, none⟩ = some (.slice va nv vc) := d5
      have e6 : wi.cell? ⟨b, o + j * 8 + 6, none⟩ = some (.slice pa np pc) := d6
      have e7 : wi.cell? ⟨b, o + j * 8 + 7, none⟩ = some (.slice ba nb bc) := d7
      clear hal hb hK hN d0 d5 d6 d7
      by_cases hk : 12 < K
      · go_wp2_with fail
        refine (HC.out _ (HB.out.alloc HB.out.size _)).mono ?_
        rintro en w5 ⟨rfl, hb5⟩
        have HB5 := Lib.hid ((HB.out.alloc HB.out.size _).trans (hb5.mono (HB.out.alloc HB.out.size _).size))
        clear hb5
        go_wp2_with fail
        go_ret
        exact ⟨44, rfl, .inl ⟨rfl, j, hlt, by rw [← HK.out]; exact hk⟩, HB5.out⟩
      · go_wp2_with fail
        refine (HC.out _ (HB.out.alloc HB.out.size _)).mono ?_
        rintro en w5 ⟨rfl, hb5⟩
        have HB5 := Lib.hid ((HB.out.alloc HB.out.size _).trans (hb5.mono (HB.out.alloc HB.out.size _).size))
        clear hb5
        go_wp2_with fail
        go_roundw
        case rel =>
          refine ⟨j + 1, by omega, by go_num, fun i hi => ?_, HB5.out⟩
          by_cases e : i = j
          · subst e; rw [← HK.out]; omega
          · exact HAL.out i (by omega)
        case measure => simp [intOf]; omega
    · obtain rfl : j = n := by omega
      clear hal hb
      go_wp2_with fail
      go_loopw [3, 4, 23] (fun x u y wr => ∃ i : Nat, i ≤ j ∧ y = .int .i64 (i : Int) ∧ x = .int .i64 (sumN sz i : Int) ∧ u = .int .i64 (sumN un i : Int) ∧ sumN sz i ≤ 16384 ∧ sumN un i ≤ 8000 ∧ Below w.heap.size w wr) (fun _ _ y _ => j - (intOf y).toNat)
      case atStart => exact ⟨0, by omega, rfl, rfl, rfl, by simp [sumN], by simp [sumN], HB.out⟩
      case round =>
        obtain ⟨i, hi, rfl, rfl, rfl, hss, hsu, hb⟩ := hrel
        obtain ⟨wk, rfl⟩ : ∃ wk : World, wk = wr := ⟨_, rfl⟩
        have HBK := Lib.hid hb
        by_cases hlt2 : i < j
        · obtain ⟨d0, d1, d2, d3, d4, d5, d6, d7⟩ := (HM.out i hlt2).below hb
          have HC := Lib.hid (fun V hv => HSS.out i hlt2 V hv)
          have HD := Lib.hid (fun V hv => HUS.out i hlt2 V hv)
          have hz := HSZ.out i
          have hu := HUN.out i
          have HSM := Lib.hid (show sumN sz (i + 1) = sumN sz i + sz i from rfl)
          have HUM := Lib.hid (show sumN un (i + 1) = sumN un i + un i from rfl)
          have HSN := Lib.hid (sumN_mono sz (k := j) (j := i + 1) (by omega))
          have HUN2 := Lib.hid (sumN_mono un (k := j) (j := i + 1) (by omega))
          rw [HSM.out] at HSN
          rw [HUM.out] at HUN2
          obtain ⟨Z, hZ⟩ : ∃ Z, Z = sz i := ⟨_, rfl⟩
          rw [← hZ] at HC hz HSM HSN
          obtain ⟨U, hU⟩ : ∃ U, U = un i := ⟨_, rfl⟩
          rw [← hU] at HD hu HUM HUN2
          obtain ⟨A, hA⟩ : ∃ A, A = sumN sz i := ⟨_, rfl⟩
          rw [← hA] at HSM HSN hss ⊢
          obtain ⟨D, hD⟩ : ∃ D, D = sumN un i := ⟨_, rfl⟩
          rw [← hD] at HUM HUN2 hsu ⊢
          obtain ⟨N, hN⟩ : ∃ N, N = M i := ⟨_, rfl⟩
          rw [← hN] at HC HD d0 d5 d6 d7
          obtain ⟨nm, va, nv, vc, pa, np, pc, ba, nb, bc⟩ := N
          have HC := Lib.hid (show ∀ V, Below w.heap.size w V → Calls Try.prog 9 #[.agg #[.string nm, .slice none 0 0, .slice none 0 0, .slice none 0 0, .slice none 0 0, .slice va nv vc, .slice pa np pc, .slice ba nb bc], .slice (some ⟨b, o, none⟩) j c] V fun en w' => en = .returned (.tuple #[.int .i64 (Z : Int), .bool true]) ∧ Below V.heap.size V w' from fun V hv => HC.out V hv)
          have HD := Lib.hid (show ∀ V, Below w.heap.size w V → Calls Try.prog 11 #[.agg #[.string nm, .slice none 0 0, .slice none 0 0, .slice none 0 0, .slice none 0 0, .slice va nv vc, .slice pa np pc, .slice ba nb bc]] V fun en w' => en = .returned (.int .i64 (U : Int)) ∧ Below V.heap.size V w' from fun V hv => HD.out V hv)
          have e0 : wk.cell? ⟨b, o + i * 8, none⟩ = some (.string nm) := d0
          have e5 : wk.cell? ⟨b, o + i * 8 + 5, none⟩ = some (.slice va nv vc) := d5
          have e6 : wk.cell? ⟨b, o + i * 8 + 6, none⟩ = some (.slice pa np pc) := d6
          have e7 : wk.cell? ⟨b, o + i * 8 + 7, none⟩ = some (.slice ba nb bc) := d7
          clear hb hZ hU hA hD hN d0 d5 d6 d7
          by_cases hk1 : (16384 : Int) < (A : Int) + (Z : Int)
          · go_wp2_with fail
            refine (HC.out _ (HBK.out.alloc HBK.out.size _)).mono ?_
            rintro en w5 ⟨rfl, hb5⟩
            have hm5 : w5.heap[wk.heap.size]? = some (.cells #[.string nm, .slice none 0 0, .slice none 0 0, .slice none 0 0, .slice none 0 0, .slice va nv vc, .slice pa np pc, .slice ba nb bc] 30 (0, 0)) := (hb5.block _ (by simp)).trans (heap_alloc_new wk _)
            have HB5 := Lib.hid ((HBK.out.alloc HBK.out.size _).trans (hb5.mono (HBK.out.alloc HBK.out.size _).size))
            have g0 := rowC hm5 0 _
            have g1 := rowC hm5 1 _
            have g2 := rowC hm5 2 _
            have g3 := rowC hm5 3 _
            have g4 := rowC hm5 4 _
            have g5 := rowC hm5 5 _
            have g6 := rowC hm5 6 _
            have g7 := rowC hm5 7 _
            clear hb5 hm5
            go_wp2_with fail
            refine (HD.out _ HB5.out).mono ?_
            rintro en w6 ⟨rfl, hb6⟩
            have HB6 := Lib.hid (HB5.out.trans (hb6.mono HB5.out.size))
            clear hb6 g0 g1 g2 g3 g4 g5 g6 g7
            go_wp2_with fail
            go_ret
            exact ⟨45, rfl, .inr ⟨HAL.out, .inl ⟨rfl, .inl (by have := HSN.out; omega)⟩⟩, HB6.out⟩
          · by_cases hk2 : (8000 : Int) < (D : Int) + (U : Int)
            · go_wp2_with fail
              refine (HC.out _ (HBK.out.alloc HBK.out.size _)).mono ?_
              rintro en w5 ⟨rfl, hb5⟩
              have hm5 : w5.heap[wk.heap.size]? = some (.cells #[.string nm, .slice none 0 0, .slice none 0 0, .slice none 0 0, .slice none 0 0, .slice va nv vc, .slice pa np pc, .slice ba nb bc] 30 (0, 0)) := (hb5.block _ (by simp)).trans (heap_alloc_new wk _)
              have HB5 := Lib.hid ((HBK.out.alloc HBK.out.size _).trans (hb5.mono (HBK.out.alloc HBK.out.size _).size))
              have g0 := rowC hm5 0 _
              have g1 := rowC hm5 1 _
              have g2 := rowC hm5 2 _
              have g3 := rowC hm5 3 _
              have g4 := rowC hm5 4 _
              have g5 := rowC hm5 5 _
              have g6 := rowC hm5 6 _
              have g7 := rowC hm5 7 _
              clear hb5 hm5
              go_wp2_with fail
              refine (HD.out _ HB5.out).mono ?_
              rintro en w6 ⟨rfl, hb6⟩
              have HB6 := Lib.hid (HB5.out.trans (hb6.mono HB5.out.size))
              clear hb6 g0 g1 g2 g3 g4 g5 g6 g7
              go_wp2_with fail
              go_ret
              exact ⟨45, rfl, .inr ⟨HAL.out, .inl ⟨rfl, .inr (by have := HUN2.out; omega)⟩⟩, HB6.out⟩
            · go_wp2_with fail
              refine (HC.out _ (HBK.out.alloc HBK.out.size _)).mono ?_
              rintro en w5 ⟨rfl, hb5⟩
              have hm5 : w5.heap[wk.heap.size]? = some (.cells #[.string nm, .slice none 0 0, .slice none 0 0, .slice none 0 0, .slice none 0 0, .slice va nv vc, .slice pa np pc, .slice ba nb bc] 30 (0, 0)) := (hb5.block _ (by simp)).trans (heap_alloc_new wk _)
              have HB5 := Lib.hid ((HBK.out.alloc HBK.out.size _).trans (hb5.mono (HBK.out.alloc HBK.out.size _).size))
              have g0 := rowC hm5 0 _
              have g1 := rowC hm5 1 _
              have g2 := rowC hm5 2 _
              have g3 := rowC hm5 3 _
              have g4 := rowC hm5 4 _
              have g5 := rowC hm5 5 _
              have g6 := rowC hm5 6 _
              have g7 := rowC hm5 7 _
              clear hb5 hm5
              go_wp2_with fail
              refine (HD.out _ HB5.out).mono ?_
              rintro en w6 ⟨rfl, hb6⟩
              have HB6 := Lib.hid (HB5.out.trans (hb6.mono HB5.out.size))
              clear hb6 g0 g1 g2 g3 g4 g5 g6 g7
              go_wp2_with fail
              go_roundw
              case rel => exact ⟨i + 1, by omega, by go_num, by rw [HSM.out]; go_num, by rw [HUM.out]; go_num, by rw [HSM.out]; omega, by rw [HUM.out]; omega, HB6.out⟩
              case measure => simp [intOf]; omega
        · obtain rfl : i = j := by omega
          clear hb
          go_wp2_with fail
          go_ret
          exact ⟨0, rfl, .inr ⟨HAL.out, .inr ⟨rfl, hss, hsu⟩⟩, HBK.out⟩
end Go.Proofs.Ytmidkomdmnncoaa
