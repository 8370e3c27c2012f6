/- Need: Words. -/
import Derived.Test.YtmidkomdmnncoaaNd8
namespace Go.Proofs.Ytmidkomdmnncoaa
open Go.RowKit Go.Waf
set_option maxRecDepth 100000
set_option linter.unusedVariables false
set_option linter.unusedSimpArgs false

set_option maxHeartbeats 3200000 in
theorem words_any (w : World) (f n m : Int) (v : Value) (hv : v.oneCell' = true) (r : Option Nat) (hm : 0 ≤ m ∧ m ≤ 1000000) (H : ∀ W z, Below w.heap.size w W → Calls Try.prog 25 #[z, tyL f n v] W fun en w' => en = .returned (.int .i64 m) ∧ Below W.heap.size W w') :
    Calls Try.prog 14 #[tyL f n v, .map r] w fun en w' => en = .returned (.tuple #[.int .i64 m, .bool true]) ∧ Below w.heap.size w w' := by
  have H := Lib.hid H
  obtain ⟨m0, m1⟩ := hm
  have hmm := @run_makeMap Try.prog
  have hv2 := hv
  unfold tyL at H ⊢
  go_enter Try.func14, Try.ntmps14
  go_wp2_with fail
  have hb0 : Below w.heap.size w (((w.alloc (.cells #[.int .i64 f, .int .i64 n, .string { data := #[] }, v] 33)).alloc (.map #[] 0)).alloc (.cells #[.map r, .map (some (w.heap.size + 1))] 76)) := (((Below.refl _ _).alloc (Nat.le_refl _) _).alloc (by simp) _).alloc (by simp; omega) _
  refine (H.out _ _ hb0).mono ?_
  rintro en w2 ⟨rfl, hb⟩
  have HB := Lib.hid (hb0.trans (hb.mono hb0.size))
  clear hb0 hb
  go_wp2_with fail
  go_ret2
  exact ⟨rfl, HB.out⟩
theorem words_int (w : World) (a : Option Addr) (c : Nat) (r : Option Nat) : Calls Try.prog 14 #[tyL 1 0 (.slice a 0 c), .map r] w fun en w' => en = .returned (.tuple #[.int .i64 1, .bool true]) ∧ Below w.heap.size w w' :=
  words_any w 1 0 1 (.slice a 0 c) rfl r (by omega) (fun W z hb => sizes_int W z a c)
theorem words_arr (w : World) (n : Nat) (h1 : 1 ≤ n) (h2 : n ≤ 1024) (v : Value) (hv : v.oneCell' = true) (hok : TyOk w (arrT n) v) (r : Option Nat) : Calls Try.prog 14 #[tyL 7 (n : Int) v, .map r] w fun en w' => en = .returned (.tuple #[.int .i64 (n : Int), .bool true]) ∧ Below w.heap.size w w' :=
  words_any w 7 n n v hv r (by omega) (fun W z hb => sizes_arr W z n h1 h2 v (TyOk.below hb (Nat.le_refl _) _ _ hok))
end Go.Proofs.Ytmidkomdmnncoaa
