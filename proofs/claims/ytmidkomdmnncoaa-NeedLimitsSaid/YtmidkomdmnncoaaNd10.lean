/- Need: slices.Concat of two lists of modules. -/
import Derived.Test.YtmidkomdmnncoaaNd9
import Derived.LoopN
namespace Go.Proofs.Ytmidkomdmnncoaa
open Go.RowKit Go.Waf
set_option maxRecDepth 100000
set_option linter.unusedVariables false
set_option linter.unusedSimpArgs false

set_option maxHeartbeats 6400000 in
theorem concat_prog (w : World) (B : Nat) (v0 v1 : Value) (n0 n1 : Nat) (cs0 cs1 : List Value) (hc0 : w.cell? ⟨B, 0, none⟩ = some v0) (hc1 : w.cell? ⟨B, 1, none⟩ = some v1) (hr0 : Rd w 8 v0 n0 cs0) (hr1 : Rd w 8 v1 n1 cs1) (hn0 : 1 ≤ n0) (hn : n0 + n1 ≤ 100) (ho0 : ∀ u ∈ cs0, u.oneCell' = true) (ho1 : ∀ u ∈ cs1, u.oneCell' = true) :
    Calls Try.prog 13 #[.slice (some ⟨B, 0, none⟩) 2 2] w fun en w' => (∃ v, en = .returned v ∧ w'.ownsRow w.heap.size 30 8 v (n0 + n1) (cs0 ++ cs1)) ∧ Below w.heap.size w w' := by
  have HG := Lib.hid (grow_prog w (n0 + n1) (by omega) (by omega))
  obtain ⟨a0, k0, rfl, p0, p1, _⟩ := rd_shape hr0
  obtain ⟨a1, k1, rfl, q0, q1, _⟩ := rd_shape hr1
  have HR0 := Lib.hid hr0
  have HR1 := Lib.hid hr1
  have HO0 := Lib.hid ho0
  have HO1 := Lib.hid ho1
  have HC0 := Lib.hid hc0
  have HC1 := Lib.hid hc1
  have HCST := Lib.hid (show (n0 : Int) + (n1 : Int) = ((n0 + n1 : Nat) : Int) by omega)
  have hle : (n0 : Int) + (n1 : Int) ≤ 100 := by omega
  have hge0 : 0 ≤ (n0 : Int) := by omega
  have hge1 : 0 ≤ (n1 : Int) := by omega
  have hle0 : (n0 : Int) ≤ 100 := by omega
  have hle1 : (n1 : Int) ≤ 100 := by omega
  have hb : B < w.heap.size := World.block_lt_of_cell? _ _ hc0
  clear hr0 hr1 ho0 ho1
  have hnn : ¬ ((n0 : Int) + (n1 : Int) < 0) := by omega
  have hn0' : ¬ ((n0 : Int) < 0) := by omega
  go_enter Try.func13, Try.ntmps13
  go_wp2_with fail
  refine wp_loop_rounds 3 ?_
  rw [rounds_succ]
  go_wp2_with fail
  rw [rounds_succ]
  go_wp2_with fail
  rw [rounds_succ]
  go_wp2_with fail
  rw [HCST.out]
  refine HG.out.mono ?_
  rintro en w2 ⟨⟨v, rfl, hv⟩, hb2⟩
  have d0 := cell_below hb2 (Nat.le_refl _) HC0.out
  have d1 := cell_below hb2 (Nat.le_refl _) HC1.out
  have HV := Lib.hid hv
  have HB2 := Lib.hid hb2
  have hsz := hb2.size
  obtain ⟨va, vc, rfl, _, _, _⟩ := owns_shape hv
  clear hv hb2 hc0 hc1
  go_wp2_with fail
  refine wp_loop_rounds 3 ?_
  rw [rounds_succ]
  go_wp2_with (at_builtin; refine app_own _ elemMod rfl _ _ rfl w.heap.size _ 0 [] rfl HV.out _ n0 cs0 rfl (HR0.out.below HB2.out (Nat.le_refl _)) HO0.out (by simp only [maxLen]; omega) (by omega) hsz ?_; intro v3 w3 ho3 hg3)
  have ho3' : w3.ownsRow w.heap.size 30 8 v3 n0 cs0 := by simpa using ho3
  have HB3 := Lib.hid (below_of_grown HB2.out hsz HV.out (Nat.le_refl _) rfl hg3)
  have HO3 := Lib.hid ho3'
  have e1 := cell_below HB3.out (Nat.le_refl _) HC1.out
  have hs3 := HB3.out.size
  obtain ⟨wa, wc, rfl, _, _, _⟩ := owns_shape ho3'
  clear ho3 ho3' hg3 d0 d1
  rw [rounds_succ]
  go_wp2_with (at_builtin; refine app_own _ elemMod rfl _ _ rfl w.heap.size _ n0 cs0 rfl HO3.out _ n1 cs1 rfl (HR1.out.below HB3.out (Nat.le_refl _)) HO1.out (by simp only [maxLen]; omega) (by omega) hs3 ?_; intro v4 w4 ho4 hg4)
  have HB4 := Lib.hid (below_of_grown HB3.out hs3 HO3.out (Nat.le_refl _) rfl hg4)
  have HO4 := Lib.hid ho4
  obtain ⟨xa, xc, rfl, _, _, _⟩ := owns_shape ho4
  clear ho4 hg4 e1
  rw [rounds_succ]
  go_wp2_with fail
  go_ret
  exact ⟨⟨_, rfl, HO4.out⟩, HB4.out⟩
end Go.Proofs.Ytmidkomdmnncoaa
