/- Trees: types that are small. -/
import Derived.Test.YtipcnkgojonmjaaTr3
namespace Go.Proofs.Ytipcnkgojonmjaa
open Go.RowKit Go.Waf
set_option maxRecDepth 100000
set_option linter.unusedVariables false
set_option linter.unusedSimpArgs false

def few (n : Nat) : Bool := decide (n ≤ 1000)
def nmB (s : ByteArray) : Bool := decide (s.size ≤ 65)
theorem list_prog (w : World) (n : Nat) : Calls Try.prog 14 #[.int .i64 (n : Int)] w fun en w' => en = .returned (.bool (few n)) ∧ w = w' := by
  have hB := Lib.hid (show decide ((n : Int) ≤ 1000) = few n from by unfold few; apply decide_eq_decide.2; omega)
  go_enter Try.func14, Try.ntmps14
  go_wp2_with fail
  go_ret
  exact ⟨congrArg (fun b => Ending.returned (.bool b)) hB.out, rfl⟩
theorem few_ref (w : World) (n : Nat) : Calls Try.prog 28 #[.int .i64 (n : Int)] w fun en w' => en = .returned (.bool (few n)) ∧ w = w' := by
  have hB := Lib.hid (show decide ((n : Int) ≤ 1000) = few n from by unfold few; apply decide_eq_decide.2; omega)
  go_enter Try.func28, Try.ntmps28
  go_wp2_with fail
  go_ret
  exact ⟨congrArg (fun b => Ending.returned (.bool b)) hB.out, rfl⟩
theorem name_prog (w : World) (s : ByteArray) : Calls Try.prog 15 #[.string s] w fun en w' => en = .returned (.bool (nmB s)) ∧ w = w' := by
  have hB := Lib.hid (show decide ((s.size : Int) ≤ 65) = nmB s from by unfold nmB; apply decide_eq_decide.2; omega)
  go_enter Try.func15, Try.ntmps15
  go_wp2_with fail
  go_ret
  exact ⟨congrArg (fun b => Ending.returned (.bool b)) hB.out, rfl⟩
/-- May a type be, where so many may be in one another still? -/
def smTy : Nat → Ty → Bool
  | 0, _ => false
  | d + 1, t => nmB t.name && few t.k && !anyB (fun j => !smTy d (t.of j)) t.k
def SmTyP (d : Nat) : Prop := ∀ (t : Ty) (w : World) (v : Value), TyOk w t v → Calls Try.prog 62 #[tyV t v, .int .i64 (d : Int)] w fun en w' => en = .returned (.bool (smTy d t)) ∧ Below w.heap.size w w'
set_option maxHeartbeats 3200000 in
theorem smallType_prog : ∀ d, d ≤ 1000 → SmTyP d := by
  intro d
  induction d with
  | zero =>
    intro _ t w v hok
    obtain ⟨a, c, rfl, _, _⟩ := hok.shape
    rw [show ((0 : Nat) : Int) = 0 from rfl]
    unfold tyV
    go_enter Try.func62, Try.ntmps62
    go_wp2_with fail
    go_ret
    exact ⟨rfl, ((Below.refl _ _).alloc (Nat.le_refl _) _).alloc (by simp) _⟩
  | succ d ih =>
    intro hd t w v hok
    obtain ⟨a, c, rfl, h1, h2, hx⟩ := hok.open
    have HD := Lib.hid (show smTy (d + 1) t = (nmB t.name && few t.k && !anyB (fun j => !smTy d (t.of j)) t.k) from rfl)
    rw [show ((d + 1 : Nat) : Int) = (d : Int) + 1 from by omega]
    unfold tyV
    have hd0 : (0 : Int) < (d : Int) + 1 := by omega
    have HI := Lib.hid (ih (by omega))
    have HNM := Lib.hid (fun w => name_prog w t.name)
    have HLS := Lib.hid (fun w => list_prog w t.k)
    obtain ⟨w1, hw1⟩ : ∃ w1 : World, w1 = (w.alloc (.cells #[.int .i64 t.form, .int .i64 t.num, .string t.name, .slice a t.k c] 33)).alloc (.cells #[.int .i64 ((d : Int) + 1)] 3) := ⟨_, rfl⟩
    have hb1 : Below w.heap.size w w1 := by rw [hw1]; exact ((Below.refl _ _).alloc (Nat.le_refl _) _).alloc (by simp) _
    have hcd : w1.cell? ⟨w.heap.size + 1, 0, none⟩ = some (.int .i64 ((d : Int) + 1)) := rowC (by rw [hw1]; exact heap_alloc2_new w _ _) 0 _
    have HCO := Lib.hid (contains_Ty w1 94 (.pointer (some ⟨w.heap.size + 1, 0, none⟩)) a t.k c t.of (fun j => !smTy d (t.of j)) (hx.below hb1 (Nat.le_refl _)) h1 h2 (fun W j u hj hok hbw => by
        have hcd2 : W.cell? ⟨w.heap.size + 1, 0, none⟩ = some (.int .i64 ((d : Int) + 1)) := cell_below hbw (Nat.le_refl _) hcd
        have hlt : w.heap.size + 1 < W.heap.size := by have := hbw.size; have := World.block_lt_of_cell? _ _ hcd; simp at this; omega
        have HH := Lib.hid (fun W2 (hb2 : Below W.heap.size W W2) => HI.out (t.of j) W2 u (TyOk.below hb2 (Nat.le_refl _) _ _ hok))
        obtain ⟨ua, uc, rfl, _, _⟩ := hok.shape
        show Calls _ _ #[tyV (t.of j) _, _] W fun en w' => en = .returned (.bool (!smTy d (t.of j))) ∧ _
        obtain ⟨E, hE⟩ : ∃ E, E = t.of j := ⟨_, rfl⟩
        rw [← hE] at HH ⊢
        unfold tyV at HH ⊢
        obtain ⟨b, hb⟩ : ∃ b, b = smTy d E := ⟨_, rfl⟩
        rw [← hb] at HH ⊢
        have hd3 : (d : Int) ≤ 1000 := by omega
        clear hE hb hcd hok HD hw1 hb1 hx hd0 hd hbw
        go_enter Try.func94, Try.ntmps94
        go_wp2_with fail
        refine (HH.out _ ((Below.refl _ _).alloc (Nat.le_refl _) _)).mono ?_
        rintro en w2 ⟨rfl, hb2⟩
        have HB2 := Lib.hid (((Below.refl _ W).alloc (Nat.le_refl _) _).trans (hb2.mono (by simp)))
        clear hb2
        go_wp2_with fail
        go_ret
        exact ⟨rfl, HB2.out⟩) (enters_of Try.func94 (by kernel_rfl) rfl))
    have hsz1 : w1.heap.size = w.heap.size + 2 := by rw [hw1]; simp
    have HW1 := Lib.hid hw1
    have HB1 := Lib.hid hb1
    have HS1 := Lib.hid hsz1
    have hc2 : w1.cell? ⟨w.heap.size, 2, none⟩ = some (.string t.name) := rowC (by rw [hw1]; exact heap_alloc2_old w _ _) 2 _
    have hc3 : w1.cell? ⟨w.heap.size, 3, none⟩ = some (.slice a t.k c) := rowC (by rw [hw1]; exact heap_alloc2_old w _ _) 3 _
    obtain ⟨B1, hB1⟩ : ∃ b, b = nmB t.name := ⟨_, rfl⟩
    obtain ⟨B2, hB2⟩ : ∃ b, b = few t.k := ⟨_, rfl⟩
    obtain ⟨B3, hB3⟩ : ∃ b, b = anyB (fun j => !smTy d (t.of j)) t.k := ⟨_, rfl⟩
    obtain ⟨B4, hB4⟩ : ∃ b, b = smTy (d + 1) t := ⟨_, rfl⟩
    rw [← hB4]
    rw [← hB1] at HNM
    rw [← hB2] at HLS
    rw [← hB3] at HCO
    rw [← hB1, ← hB2, ← hB3, ← hB4] at HD
    clear hB1 hB2 hB3 hB4 hw1 hb1 hsz1 hx ih hok hcd HI hd
    cases B1
    · obtain rfl : B4 = false := by rw [HD.out]; simp
      go_enter Try.func62, Try.ntmps62
      go_wp2_with fail
      rw [← HW1.out]
      refine (HNM.out _).mono ?_
      rintro en w2 ⟨rfl, rfl⟩
      go_wp2_with fail
      go_ret
      exact ⟨rfl, HB1.out⟩
    · cases B2
      · obtain rfl : B4 = false := by rw [HD.out]; simp
        go_enter Try.func62, Try.ntmps62
        go_wp2_with fail
        rw [← HW1.out]
        refine (HNM.out _).mono ?_
        rintro en w2 ⟨rfl, rfl⟩
        go_wp2_with fail
        refine (HLS.out _).mono ?_
        rintro en w2 ⟨rfl, rfl⟩
        go_wp2_with fail
        go_ret
        exact ⟨rfl, HB1.out⟩
      · have HD2 := Lib.hid (show B4 = !B3 from by rw [HD.out]; simp)
        go_enter Try.func62, Try.ntmps62
        go_wp2_with fail
        rw [← HW1.out]
        refine (HNM.out _).mono ?_
        rintro en w2 ⟨rfl, rfl⟩
        go_wp2_with fail
        refine (HLS.out _).mono ?_
        rintro en w2 ⟨rfl, rfl⟩
        go_wp2_with fail
        refine HCO.out.mono ?_
        rintro en w2 ⟨rfl, hb2⟩
        have HB2 := Lib.hid (HB1.out.trans (hb2.mono (by rw [HS1.out]; omega)))
        clear hb2
        go_wp2_with fail
        go_ret
        exact ⟨by rw [HD2.out]; rfl, HB2.out⟩
end Go.Proofs.Ytipcnkgojonmjaa
