/- Need: slices.Grow of nothing, slices.Concat of two lists of modules. -/
import Derived.Test.YtmidkomdmnncoaaNd5
import Derived.Lib.AppendZerosOnto
namespace Go.Proofs.Ytmidkomdmnncoaa
open Go.RowKit Go.Waf
set_option maxRecDepth 100000
set_option linter.unusedVariables false
set_option linter.unusedSimpArgs false

def zMod : Array Value := #[.string ByteArray.empty, .slice none 0 0, .slice none 0 0, .slice none 0 0, .slice none 0 0, .slice none 0 0, .slice none 0 0, .slice none 0 0]
theorem elemMod : Elem Try.prog 51 30 8 184 := Elem.mk' (z := .agg #[.string ByteArray.empty, .slice none 0 0, .slice none 0 0, .slice none 0 0, .slice none 0 0, .slice none 0 0, .slice none 0 0, .slice none 0 0]) Try.underlying51 (by kernel_rfl) rfl (by decide)
theorem infoM : ∃ i, (Try.prog).info? 30 = some i ∧ i.zero = some (.agg zMod) ∧ i.size = 8 ∧ i.bytes = 184 := by
  have e : ((Try.prog).info? 30).map (fun i => (i.zero, i.size, i.bytes)) = some (some (.agg zMod), 8, 184) := by kernel_rfl
  cases h : (Try.prog).info? 30 with
  | none => rw [h] at e; cases e
  | some i =>
    rw [h] at e
    have e := Option.some.inj e
    exact ⟨i, rfl, congrArg (·.1) e, congrArg (·.2.1) e, congrArg (·.2.2) e⟩
set_option maxHeartbeats 4000000 in
theorem grow_prog (w : World) (n : Nat) (h1 : 1 ≤ n) (h2 : n ≤ 1000) : Calls Try.prog 24 #[.slice none 0 0, .int .i64 (n : Int)] w fun en w' => (∃ v, en = .returned v ∧ w'.ownsRow w.heap.size 30 8 v 0 []) ∧ Below w.heap.size w w' := by
  obtain ⟨i0, hi0, hz0, hs0, hb0⟩ := infoM
  have hold : (Builtin.firstCells i0.size 0 (.slice none 0 0)).run Try.prog w.drew = .ok ([] : List Value).toArray w.drew := run_firstCells_none w.drew i0.size 0 0 0
  have hrz : ∀ ty, (Builtin.append_ #[51, 3] ty #[.slice none 0 0, .int .i64 (n : Int)]).run Try.prog w =
      .ok (.slice (some ⟨w.heap.size, 0, none⟩) n (grownCap w n 0 30)) (w.drew.alloc (.cells (([] : List Value).toArray ++ Builtin.zeroCells zMod n ++ Builtin.zeroCells zMod (grownCap w n 0 30 - n)) 30)) := fun ty => by
    have h := Lib.run_append_grow_zeros w 51 3 ty 30 i0 _ .i64 .i64 Try.underlying51 Try.underlying3 hi0 hz0 none 0 0 [] hold n (by omega) (by rw [hs0]; omega) (by omega) (by omega)
      (by rw [hb0]; omega) (by rw [hb0]; exact growslice_fits (by omega) (by omega))
    simp only [Nat.zero_add] at h
    exact h
  have hGn : n ≤ grownCap w n 0 30 := grownCap_ge w _ _ _
  have hG63' := grownCap_le_maxLen w n 0 30 (by unfold maxLen; omega)
  obtain ⟨G, hG⟩ : ∃ G, G = grownCap w n 0 30 := ⟨_, rfl⟩
  rw [← hG] at hrz hGn hG63'
  have hG63 : G ≤ 9223372036854775807 := by unfold maxLen at hG63'; omega
  obtain ⟨cs, hcs⟩ : ∃ cs, cs = ([] : List Value).toArray ++ Builtin.zeroCells zMod n ++ Builtin.zeroCells zMod (G - n) := ⟨_, rfl⟩
  have hcz : cs.size = G * 8 := by
    rw [hcs]
    simp only [Array.size_append, size_zeroCells]
    show 0 + n * 8 + (G - n) * 8 = G * 8
    omega
  rw [← hcs] at hrz
  have HCZ := Lib.hid hcz
  have HGM := Lib.hid hG63'
  have hnp : ¬ ((n : Int) < 0) := by omega
  clear hold hG hi0 hz0 hs0 hb0 hcs hcz hG63'
  go_enter Try.func24, Try.ntmps24
  go_wp2_with (at_builtin; refine Lib.wpList_append_run _ rfl _ _ _ _ rfl _ _ rfl rfl _ _ (hrz _) ?_)
  all_goals
    go_ret
    refine ⟨⟨_, rfl, rfl, .inr ⟨w.heap.size, G, cs, rfl, Nat.le_refl _, ?_, Nat.zero_le _, HGM.out, HCZ.out, by simp⟩⟩, (Below.drew (Below.refl _ w)).alloc (Nat.le_refl _) _⟩
    exact heap_alloc_new w.drew _
end Go.Proofs.Ytmidkomdmnncoaa
