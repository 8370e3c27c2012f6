/- Need: types that the law makes. -/
import Derived.Test.YtmidkomdmnncoaaNd16
namespace Go.Proofs.Ytmidkomdmnncoaa
open Go.RowKit Go.Waf
set_option maxRecDepth 100000
set_option linter.unusedVariables false
set_option linter.unusedSimpArgs false

set_option maxHeartbeats 3200000 in
theorem basic_prog (w : World) (f : Int) : Calls Try.prog 8 #[.int .i64 f] w fun e w' => e = .returned (tyL f 0 (.slice none 0 0)) ∧ Below w.heap.size w w' := by
  go_enter Try.func8, Try.ntmps8
  go_wp2_with fail
  exact bodyPost_ret (v := .agg #[.int .i64 f, .int .i64 0, .string ByteArray.empty, .slice none 0 0]) (by simp [results, Try.results8, go_sem]; rfl) rfl ⟨rfl, (Below.refl _ _).alloc (Nat.le_refl _) _⟩
set_option maxHeartbeats 3200000 in
theorem arr_prog (w : World) (n : Int) : Calls Try.prog 7 #[.int .i64 n, tyL 1 0 (.slice none 0 0)] w fun e w' => (∃ g, e = .returned (tyL 7 n (.slice (some ⟨g, 0, none⟩) 1 1)) ∧ w.heap.size ≤ g ∧ w'.heap[g]? = some (.cells #[.int .i64 1, .int .i64 0, .string { data := #[] }, .slice none 0 0] 33 (0, 0))) ∧ Below w.heap.size w w' := by
  unfold tyL
  go_enter Try.func7, Try.ntmps7
  go_wp2_with fail
  obtain ⟨w4, hw4⟩ : ∃ w4 : World, w4 = (((w.alloc (.cells #[.int .i64 1, .int .i64 0, .string { data := #[] }, .slice none 0 0] 33)).alloc (.cells #[.int .i64 7, .int .i64 n, .string { data := #[] }, .slice (some ⟨w.heap.size + 1 + 1, 0, none⟩) 1 1] 33)).alloc (.cells #[.int .i64 1, .int .i64 0, .string { data := #[] }, .slice none 0 0] 33)) := ⟨_, rfl⟩
  have b4 : Below w.heap.size w w4 := by rw [hw4]; exact (((Below.refl _ _).alloc (Nat.le_refl _) _).alloc (by simp) _).alloc (by simp; omega) _
  have g4 : w4.heap[w.heap.size + 1 + 1]? = some (.cells #[.int .i64 1, .int .i64 0, .string { data := #[] }, .slice none 0 0] 33 (0, 0)) := by rw [hw4]; exact atNew (by simp)
  have r4 : w4.heap[w.heap.size + 1]? = some (.cells #[.int .i64 7, .int .i64 n, .string { data := #[] }, .slice (some ⟨w.heap.size + 1 + 1, 0, none⟩) 1 1] 33 (0, 0)) := by rw [hw4]; exact blk_alloc (atNew (by simp)) _
  rw [← hw4]
  clear hw4
  have c0 := rowC r4 0 _
  have c1 := rowC r4 1 _
  have c2 := rowC r4 2 _
  have c3 := rowC r4 3 _
  exact bodyPost_ret (v := .agg #[.int .i64 7, .int .i64 n, .string ByteArray.empty, .slice (some ⟨w.heap.size + 1 + 1, 0, none⟩) 1 1]) (by simp [results, Try.results7, go_sem, c0, c1, c2, c3] <;> rfl) rfl ⟨⟨_, rfl, by omega, g4⟩, b4⟩
end Go.Proofs.Ytmidkomdmnncoaa
