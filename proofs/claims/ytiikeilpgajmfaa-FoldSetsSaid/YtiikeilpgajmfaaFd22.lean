/- Fold: Basic and Num, their worlds told whole. -/
import Derived.Test.YtiikeilpgajmfaaFd20
import Derived.Test.YtiikeilpgajmfaaOrd
namespace Go.Proofs.Ytiikeilpgajmfaa
open Go.RowKit Go.Waf
set_option maxRecDepth 100000
set_option linter.unusedVariables false
set_option linter.unusedSimpArgs false

abbrev bArr (f : Int) : Array Value := #[.int .i64 f, .int .i64 0, .string ByteArray.empty, .slice none 0 0]
set_option maxHeartbeats 3200000 in
theorem basic_whole (w : World) (f : Int) : Calls Try.prog 19 #[.int .i64 f] w fun e w' => e = .returned (.agg #[.int .i64 f, .int .i64 0, .string ByteArray.empty, .slice none 0 0]) ∧ w' = w.alloc (.cells #[.int .i64 f, .int .i64 0, .string ByteArray.empty, .slice none 0 0] 24) := by
  go_enter Try.func19, Try.ntmps19
  go_wp2_with fail
  exact bodyPost_ret (v := .agg #[.int .i64 f, .int .i64 0, .string ByteArray.empty, .slice none 0 0]) (by simp [results, Try.results19, go_sem]; rfl) rfl ⟨rfl, rfl⟩
set_option maxHeartbeats 3200000 in
theorem num_whole (w : World) (f i : Int) : Calls Try.prog 9 #[.int .i64 f, .int .i32 i] w fun e w' => e = .returned (.agg #[.int .i64 0, .int .i64 f, .int .i64 0, .string ByteArray.empty, .slice none 0 0, .int .i32 i, .string ByteArray.empty, .slice none 0 0]) ∧ w' = (w.alloc (.cells #[.int .i64 0, .int .i64 f, .int .i64 0, .string ByteArray.empty, .slice none 0 0, .int .i32 i, .string ByteArray.empty, .slice none 0 0] 27)).alloc (.cells #[.int .i64 f, .int .i64 0, .string ByteArray.empty, .slice none 0 0] 24) := by
  go_enter Try.func9, Try.ntmps9
  have H := basic_whole
  go_wp2_with fail
  refine (H _ _).mono ?_
  rintro e w2 ⟨he, rfl⟩
  obtain rfl : e = .returned (.agg #[.int .i64 f, .int .i64 0, .string ByteArray.empty, .slice none 0 0]) := he
  clear H
  go_wp2_with fail
  exact bodyPost_ret (v := .agg #[.int .i64 0, .int .i64 f, .int .i64 0, .string ByteArray.empty, .slice none 0 0, .int .i32 i, .string ByteArray.empty, .slice none 0 0]) (by simp [results, Try.results9, go_sem]; try rfl) rfl ⟨rfl, rfl⟩
end Go.Proofs.Ytiikeilpgajmfaa
