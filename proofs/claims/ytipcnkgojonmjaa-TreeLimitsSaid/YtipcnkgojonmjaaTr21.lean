/- Trees: are two modules of a body alike? -/
import Derived.Test.YtipcnkgojonmjaaTr20
namespace Go.Proofs.Ytipcnkgojonmjaa
open Go.RowKit Go.Waf
set_option maxRecDepth 100000
set_option linter.unusedVariables false
set_option linter.unusedSimpArgs false

set_option maxHeartbeats 6400000 in
theorem same_prog (w : World) (a a' : Option Addr) (k c k' c' : Nat) (f f' : Nat → St) (h : StsAt w a k f) (h' : StsAt w a' k' f') (h1 : k ≤ c) (h2 : c ≤ 9223372036854775807) (h3 : k' ≤ c') (h4 : c' ≤ 9223372036854775807) (hs : k = k' → ∀ j, j < k → f j = f' j ∧ Flat (f j)) :
    Calls Try.prog 10 #[modV none 0 0 a k c, modV none 0 0 a' k' c'] w fun en w' => en = .returned (.bool (decide (k = k'))) ∧ Below w.heap.size w w' := by
  unfold modV
  have HS := Lib.hid (fun W (hb : Below w.heap.size w W) => sameBody_any W a a' k c k' c' f f' (h.below hb (Nat.le_refl _)) (h'.below hb (Nat.le_refl _)) h1 h2 h3 h4 hs)
  obtain ⟨R, hR⟩ : ∃ R, R = decide (k = k') := ⟨_, rfl⟩
  rw [← hR] at HS ⊢
  obtain ⟨w1, hw1⟩ : ∃ w1 : World, w1 = (w.alloc (.cells #[.string { data := #[77] }, .slice none 0 0, .slice none 0 0, .slice none 0 0, .slice none 0 0, .slice none 0 0, .slice none 0 0, .slice a k c] 30)).alloc (.cells #[.string { data := #[77] }, .slice none 0 0, .slice none 0 0, .slice none 0 0, .slice none 0 0, .slice none 0 0, .slice none 0 0, .slice a' k' c'] 30) := ⟨_, rfl⟩
  have HB1 := Lib.hid (show Below w.heap.size w w1 from by rw [hw1]; exact ((Below.refl _ _).alloc (Nat.le_refl _) _).alloc (by simp) _)
  have HW1 := Lib.hid hw1
  have e1 := equals_none_Str
  have e2 := equal_none_Const
  have e3 := equal_none_Var
  have e4 := equal_none_Rec
  have e5 := equal_none_Proc
  clear h h' hs hR hw1
  go_enter Try.func10, Try.ntmps10
  go_wp2_with fail
  refine (e1 _ _ _ _ _).mono ?_
  rintro en wq ⟨rfl, rfl⟩
  go_wp2_with fail
  refine (e2 _ _).mono ?_
  rintro en wq ⟨rfl, rfl⟩
  go_wp2_with fail
  refine (e3 _ _).mono ?_
  rintro en wq ⟨rfl, rfl⟩
  go_wp2_with fail
  refine (e4 _ _).mono ?_
  rintro en wq ⟨rfl, rfl⟩
  go_wp2_with fail
  refine (e3 _ _).mono ?_
  rintro en wq ⟨rfl, rfl⟩
  go_wp2_with fail
  refine (e5 _ _).mono ?_
  rintro en wq ⟨rfl, rfl⟩
  go_wp2_with fail
  rw [← HW1.out]
  refine (HS.out _ HB1.out).mono ?_
  rintro en w2 ⟨rfl, hb2⟩
  have HB2 := Lib.hid (HB1.out.trans (hb2.mono HB1.out.size))
  clear hb2
  go_wp2_with fail
  go_ret
  exact ⟨rfl, HB2.out⟩
/-- The expression of known, its statement. -/
def kE : Ex := .mk 9 (tyF 0) 0 ByteArray.empty 2 (fun _ => numE 0 0)
def kS : St := .mk 14 1 (fun _ => kE) 0 (fun _ => 0) (fun _ _ => .none) 0 (fun _ => 0)
theorem kE_dep : kE.dep = 2 := rfl
theorem kS_flat : Flat kS := ⟨rfl, rfl⟩
theorem leaf_num (f i : Int) : Leaf (numE f i) := ⟨rfl, rfl⟩
theorem clone_num (f i : Int) : CloneP (numE f i) := clone_of _ rfl (by show (0 : Nat) ≤ 1000; omega) (.inl (by show (0 : Nat) ≤ 1; omega)) (fun j hj => absurd (show j < 0 from hj) (by omega))
theorem clone_kE : CloneP kE := clone_of _ rfl (by show (2 : Nat) ≤ 1000; omega) (.inr fun j hj => leaf_num 0 0) (fun j hj => clone_num 0 0)
theorem kS_cl : Cl kS := ⟨by show (1 : Nat) ≤ 1000; omega, .inl (by show (1 : Nat) ≤ 1; omega), fun j hj => clone_kE⟩
theorem kS_nest : nestS 1 (fun _ => kS) = 1 := rfl
theorem kS_runs : runSts ueC usC 1 (fun _ => kS) (0, 0) = (3, 1) := rfl
theorem kS_small (x : Nat → Vr) : smMod 0 x 1 (fun _ => kS) = true := by kernel_rfl
theorem kS_dep : DepsOk 1 (fun _ => kS) := fun i hi => ⟨fun j hj => by show kE.dep ≤ 1000000; rw [kE_dep]; omega, fun j hj => absurd (show j < 0 from hj) (by omega)⟩
end Go.Proofs.Ytipcnkgojonmjaa
