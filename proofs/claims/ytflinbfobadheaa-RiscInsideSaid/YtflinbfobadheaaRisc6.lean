/- Contracts of holds. -/
import Derived.Test.YtflinbfobadheaaRisc5
namespace Go.Proofs.Ytflinbfobadheaa
open Go.RowKit Go.Waf
set_option maxRecDepth 100000
set_option linter.unusedVariables false
attribute [local go_sem] mask7_i64

section
variable {w : World} {B q : Nat} {F : Nat → Prop} {cv mv iv ov : Value} {s : St}
theorem pholds_0 (h : Mach true w B q F cv mv iv ov s) : Calls Try.prog 56 #[.pointer (some ⟨q, 0, none⟩), .int .i64 0] w fun e w' => e = .returned (.bool (s.holds 0)) ∧ ∃ m, w' = w.drewN m := by
  have cn := h.p_n
  obtain ⟨N, hn⟩ : ∃ N, N = s.n := ⟨_, rfl⟩
  rw [← hn] at cn
  have e : s.holds 0 = (N == true) := by rw [hn]; rfl
  rw [e]
  clear e h hn
  cases N
  all_goals
    go_enter Try.func56, Try.ntmps56
    go_wp2_with fail
    go_ret
    exact ⟨rfl, 0, rfl⟩
theorem pholds_1 (h : Mach true w B q F cv mv iv ov s) : Calls Try.prog 56 #[.pointer (some ⟨q, 0, none⟩), .int .i64 1] w fun e w' => e = .returned (.bool (s.holds 1)) ∧ ∃ m, w' = w.drewN m := by
  have cz := h.p_z
  obtain ⟨Z, hz⟩ : ∃ Z, Z = s.z := ⟨_, rfl⟩
  rw [← hz] at cz
  have e : s.holds 1 = (Z == true) := by rw [hz]; rfl
  rw [e]
  clear e h hz
  cases Z
  all_goals
    go_enter Try.func56, Try.ntmps56
    go_wp2_with fail
    go_ret
    exact ⟨rfl, 0, rfl⟩
theorem pholds_2 (h : Mach true w B q F cv mv iv ov s) : Calls Try.prog 56 #[.pointer (some ⟨q, 0, none⟩), .int .i64 2] w fun e w' => e = .returned (.bool (s.holds 2)) ∧ ∃ m, w' = w.drewN m := by
  have cc := h.p_c
  obtain ⟨C, hc⟩ : ∃ C, C = s.c := ⟨_, rfl⟩
  rw [← hc] at cc
  have e : s.holds 2 = (C == true) := by rw [hc]; rfl
  rw [e]
  clear e h hc
  cases C
  all_goals
    go_enter Try.func56, Try.ntmps56
    go_wp2_with fail
    go_ret
    exact ⟨rfl, 0, rfl⟩
theorem pholds_3 (h : Mach true w B q F cv mv iv ov s) : Calls Try.prog 56 #[.pointer (some ⟨q, 0, none⟩), .int .i64 3] w fun e w' => e = .returned (.bool (s.holds 3)) ∧ ∃ m, w' = w.drewN m := by
  have cv := h.p_v
  obtain ⟨V, hv⟩ : ∃ V, V = s.v := ⟨_, rfl⟩
  rw [← hv] at cv
  have e : s.holds 3 = (V == true) := by rw [hv]; rfl
  rw [e]
  clear e h hv
  cases V
  all_goals
    go_enter Try.func56, Try.ntmps56
    go_wp2_with fail
    go_ret
    exact ⟨rfl, 0, rfl⟩
theorem pholds_4 (h : Mach true w B q F cv mv iv ov s) : Calls Try.prog 56 #[.pointer (some ⟨q, 0, none⟩), .int .i64 4] w fun e w' => e = .returned (.bool (s.holds 4)) ∧ ∃ m, w' = w.drewN m := by
  have cc := h.p_c
  obtain ⟨C, hc⟩ : ∃ C, C = s.c := ⟨_, rfl⟩
  rw [← hc] at cc
  have cz := h.p_z
  obtain ⟨Z, hz⟩ : ∃ Z, Z = s.z := ⟨_, rfl⟩
  rw [← hz] at cz
  have e : s.holds 4 = ((C || Z) == true) := by rw [hc, hz]; rfl
  rw [e]
  clear e h hc hz
  cases C <;> cases Z
  all_goals
    go_enter Try.func56, Try.ntmps56
    go_wp2_with fail
    go_ret
    exact ⟨rfl, 0, rfl⟩
theorem pholds_5 (h : Mach true w B q F cv mv iv ov s) : Calls Try.prog 56 #[.pointer (some ⟨q, 0, none⟩), .int .i64 5] w fun e w' => e = .returned (.bool (s.holds 5)) ∧ ∃ m, w' = w.drewN m := by
  have cn := h.p_n
  obtain ⟨N, hn⟩ : ∃ N, N = s.n := ⟨_, rfl⟩
  rw [← hn] at cn
  have cv := h.p_v
  obtain ⟨V, hv⟩ : ∃ V, V = s.v := ⟨_, rfl⟩
  rw [← hv] at cv
  have e : s.holds 5 = ((N != V) == true) := by rw [hn, hv]; rfl
  rw [e]
  clear e h hn hv
  cases N <;> cases V
  all_goals
    go_enter Try.func56, Try.ntmps56
    go_wp2_with fail
    go_quiet (fail)
    go_wp2_with fail
    go_ret
    exact ⟨rfl, _, rfl⟩
theorem pholds_6 (h : Mach true w B q F cv mv iv ov s) : Calls Try.prog 56 #[.pointer (some ⟨q, 0, none⟩), .int .i64 6] w fun e w' => e = .returned (.bool (s.holds 6)) ∧ ∃ m, w' = w.drewN m := by
  have cn := h.p_n
  obtain ⟨N, hn⟩ : ∃ N, N = s.n := ⟨_, rfl⟩
  rw [← hn] at cn
  have cv := h.p_v
  obtain ⟨V, hv⟩ : ∃ V, V = s.v := ⟨_, rfl⟩
  rw [← hv] at cv
  have cz := h.p_z
  obtain ⟨Z, hz⟩ : ∃ Z, Z = s.z := ⟨_, rfl⟩
  rw [← hz] at cz
  have e : s.holds 6 = (((N != V) || Z) == true) := by rw [hn, hv, hz]; rfl
  rw [e]
  clear e h hn hv hz
  cases N <;> cases V <;> cases Z
  all_goals
    go_enter Try.func56, Try.ntmps56
    go_wp2_with fail
    go_quiet (fail)
    go_wp2_with fail
    go_ret
    exact ⟨rfl, _, rfl⟩
theorem pholds_7 (h : Mach true w B q F cv mv iv ov s) : Calls Try.prog 56 #[.pointer (some ⟨q, 0, none⟩), .int .i64 7] w fun e w' => e = .returned (.bool (s.holds 7)) ∧ ∃ m, w' = w.drewN m := by
  have e : s.holds 7 = (true == true) := by rfl
  rw [e]
  clear e h 
  all_goals
    go_enter Try.func56, Try.ntmps56
    go_wp2_with fail
    go_ret
    exact ⟨rfl, 0, rfl⟩
theorem pholds_8 (h : Mach true w B q F cv mv iv ov s) : Calls Try.prog 56 #[.pointer (some ⟨q, 0, none⟩), .int .i64 8] w fun e w' => e = .returned (.bool (s.holds 8)) ∧ ∃ m, w' = w.drewN m := by
  have cn := h.p_n
  obtain ⟨N, hn⟩ : ∃ N, N = s.n := ⟨_, rfl⟩
  rw [← hn] at cn
  have e : s.holds 8 = (N == false) := by rw [hn]; rfl
  rw [e]
  clear e h hn
  cases N
  all_goals
    go_enter Try.func56, Try.ntmps56
    go_wp2_with fail
    go_ret
    exact ⟨rfl, 0, rfl⟩
theorem pholds_9 (h : Mach true w B q F cv mv iv ov s) : Calls Try.prog 56 #[.pointer (some ⟨q, 0, none⟩), .int .i64 9] w fun e w' => e = .returned (.bool (s.holds 9)) ∧ ∃ m, w' = w.drewN m := by
  have cz := h.p_z
  obtain ⟨Z, hz⟩ : ∃ Z, Z = s.z := ⟨_, rfl⟩
  rw [← hz] at cz
  have e : s.holds 9 = (Z == false) := by rw [hz]; rfl
  rw [e]
  clear e h hz
  cases Z
  all_goals
    go_enter Try.func56, Try.ntmps56
    go_wp2_with fail
    go_ret
    exact ⟨rfl, 0, rfl⟩
theorem pholds_10 (h : Mach true w B q F cv mv iv ov s) : Calls Try.prog 56 #[.pointer (some ⟨q, 0, none⟩), .int .i64 10] w fun e w' => e = .returned (.bool (s.holds 10)) ∧ ∃ m, w' = w.drewN m := by
  have cc := h.p_c
  obtain ⟨C, hc⟩ : ∃ C, C = s.c := ⟨_, rfl⟩
  rw [← hc] at cc
  have e : s.holds 10 = (C == false) := by rw [hc]; rfl
  rw [e]
  clear e h hc
  cases C
  all_goals
    go_enter Try.func56, Try.ntmps56
    go_wp2_with fail
    go_ret
    exact ⟨rfl, 0, rfl⟩
theorem pholds_11 (h : Mach true w B q F cv mv iv ov s) : Calls Try.prog 56 #[.pointer (some ⟨q, 0, none⟩), .int .i64 11] w fun e w' => e = .returned (.bool (s.holds 11)) ∧ ∃ m, w' = w.drewN m := by
  have cv := h.p_v
  obtain ⟨V, hv⟩ : ∃ V, V = s.v := ⟨_, rfl⟩
  rw [← hv] at cv
  have e : s.holds 11 = (V == false) := by rw [hv]; rfl
  rw [e]
  clear e h hv
  cases V
  all_goals
    go_enter Try.func56, Try.ntmps56
    go_wp2_with fail
    go_ret
    exact ⟨rfl, 0, rfl⟩
theorem pholds_12 (h : Mach true w B q F cv mv iv ov s) : Calls Try.prog 56 #[.pointer (some ⟨q, 0, none⟩), .int .i64 12] w fun e w' => e = .returned (.bool (s.holds 12)) ∧ ∃ m, w' = w.drewN m := by
  have cc := h.p_c
  obtain ⟨C, hc⟩ : ∃ C, C = s.c := ⟨_, rfl⟩
  rw [← hc] at cc
  have cz := h.p_z
  obtain ⟨Z, hz⟩ : ∃ Z, Z = s.z := ⟨_, rfl⟩
  rw [← hz] at cz
  have e : s.holds 12 = ((C || Z) == false) := by rw [hc, hz]; rfl
  rw [e]
  clear e h hc hz
  cases C <;> cases Z
  all_goals
    go_enter Try.func56, Try.ntmps56
    go_wp2_with fail
    go_ret
    exact ⟨rfl, 0, rfl⟩
theorem pholds_13 (h : Mach true w B q F cv mv iv ov s) : Calls Try.prog 56 #[.pointer (some ⟨q, 0, none⟩), .int .i64 13] w fun e w' => e = .returned (.bool (s.holds 13)) ∧ ∃ m, w' = w.drewN m := by
  have cn := h.p_n
  obtain ⟨N, hn⟩ : ∃ N, N = s.n := ⟨_, rfl⟩
  rw [← hn] at cn
  have cv := h.p_v
  obtain ⟨V, hv⟩ : ∃ V, V = s.v := ⟨_, rfl⟩
  rw [← hv] at cv
  have e : s.holds 13 = ((N != V) == false) := by rw [hn, hv]; rfl
  rw [e]
  clear e h hn hv
  cases N <;> cases V
  all_goals
    go_enter Try.func56, Try.ntmps56
    go_wp2_with fail
    go_quiet (fail)
    go_wp2_with fail
    go_ret
    exact ⟨rfl, _, rfl⟩
theorem pholds_14 (h : Mach true w B q F cv mv iv ov s) : Calls Try.prog 56 #[.pointer (some ⟨q, 0, none⟩), .int .i64 14] w fun e w' => e = .returned (.bool (s.holds 14)) ∧ ∃ m, w' = w.drewN m := by
  have cn := h.p_n
  obtain ⟨N, hn⟩ : ∃ N, N = s.n := ⟨_, rfl⟩
  rw [← hn] at cn
  have cv := h.p_v
  obtain ⟨V, hv⟩ : ∃ V, V = s.v := ⟨_, rfl⟩
  rw [← hv] at cv
  have cz := h.p_z
  obtain ⟨Z, hz⟩ : ∃ Z, Z = s.z := ⟨_, rfl⟩
  rw [← hz] at cz
  have e : s.holds 14 = (((N != V) || Z) == false) := by rw [hn, hv, hz]; rfl
  rw [e]
  clear e h hn hv hz
  cases N <;> cases V <;> cases Z
  all_goals
    go_enter Try.func56, Try.ntmps56
    go_wp2_with fail
    go_quiet (fail)
    go_wp2_with fail
    go_ret
    exact ⟨rfl, _, rfl⟩
theorem pholds_15 (h : Mach true w B q F cv mv iv ov s) : Calls Try.prog 56 #[.pointer (some ⟨q, 0, none⟩), .int .i64 15] w fun e w' => e = .returned (.bool (s.holds 15)) ∧ ∃ m, w' = w.drewN m := by
  have e : s.holds 15 = (true == false) := by rfl
  rw [e]
  clear e h 
  all_goals
    go_enter Try.func56, Try.ntmps56
    go_wp2_with fail
    go_ret
    exact ⟨rfl, 0, rfl⟩
theorem pholds_any (h : Mach true w B q F cv mv iv ov s) (a : Int) (ha : nib a) : Calls Try.prog 56 #[.pointer (some ⟨q, 0, none⟩), .int .i64 a] w fun e w' => e = .returned (.bool (s.holds a)) ∧ ∃ m, w' = w.drewN m := by
  unfold nib at ha
  rcases (by omega : a = 0 ∨ a = 1 ∨ a = 2 ∨ a = 3 ∨ a = 4 ∨ a = 5 ∨ a = 6 ∨ a = 7 ∨ a = 8 ∨ a = 9 ∨ a = 10 ∨ a = 11 ∨ a = 12 ∨ a = 13 ∨ a = 14 ∨ a = 15) with rfl | rfl | rfl | rfl | rfl | rfl | rfl | rfl | rfl | rfl | rfl | rfl | rfl | rfl | rfl | rfl
  · exact pholds_0 h
  · exact pholds_1 h
  · exact pholds_2 h
  · exact pholds_3 h
  · exact pholds_4 h
  · exact pholds_5 h
  · exact pholds_6 h
  · exact pholds_7 h
  · exact pholds_8 h
  · exact pholds_9 h
  · exact pholds_10 h
  · exact pholds_11 h
  · exact pholds_12 h
  · exact pholds_13 h
  · exact pholds_14 h
  · exact pholds_15 h
theorem rholds_0 (h : Mach false w B q F cv mv iv ov s) : Calls Try.prog 64 #[.pointer (some ⟨q, 0, none⟩), .int .i64 0] w fun e w' => e = .returned (.bool (s.holds 0)) ∧ ∃ m, w' = w.drewN m := by
  have cn := h.r_n
  obtain ⟨N, hn⟩ : ∃ N, N = s.n := ⟨_, rfl⟩
  rw [← hn] at cn
  have e : s.holds 0 = (N == true) := by rw [hn]; rfl
  rw [e]
  clear e h hn
  cases N
  all_goals
    go_enter Try.func64, Try.ntmps64
    go_wp2_with fail
    go_ret
    exact ⟨rfl, 0, rfl⟩
theorem rholds_1 (h : Mach false w B q F cv mv iv ov s) : Calls Try.prog 64 #[.pointer (some ⟨q, 0, none⟩), .int .i64 1] w fun e w' => e = .returned (.bool (s.holds 1)) ∧ ∃ m, w' = w.drewN m := by
  have cz := h.r_z
  obtain ⟨Z, hz⟩ : ∃ Z, Z = s.z := ⟨_, rfl⟩
  rw [← hz] at cz
  have e : s.holds 1 = (Z == true) := by rw [hz]; rfl
  rw [e]
  clear e h hz
  cases Z
  all_goals
    go_enter Try.func64, Try.ntmps64
    go_wp2_with fail
    go_ret
    exact ⟨rfl, 0, rfl⟩
theorem rholds_2 (h : Mach false w B q F cv mv iv ov s) : Calls Try.prog 64 #[.pointer (some ⟨q, 0, none⟩), .int .i64 2] w fun e w' => e = .returned (.bool (s.holds 2)) ∧ ∃ m, w' = w.drewN m := by
  have cc := h.r_c
  obtain ⟨C, hc⟩ : ∃ C, C = s.c := ⟨_, rfl⟩
  rw [← hc] at cc
  have e : s.holds 2 = (C == true) := by rw [hc]; rfl
  rw [e]
  clear e h hc
  cases C
  all_goals
    go_enter Try.func64, Try.ntmps64
    go_wp2_with fail
    go_ret
    exact ⟨rfl, 0, rfl⟩
theorem rholds_3 (h : Mach false w B q F cv mv iv ov s) : Calls Try.prog 64 #[.pointer (some ⟨q, 0, none⟩), .int .i64 3] w fun e w' => e = .returned (.bool (s.holds 3)) ∧ ∃ m, w' = w.drewN m := by
  have cv := h.r_v
  obtain ⟨V, hv⟩ : ∃ V, V = s.v := ⟨_, rfl⟩
  rw [← hv] at cv
  have e : s.holds 3 = (V == true) := by rw [hv]; rfl
  rw [e]
  clear e h hv
  cases V
  all_goals
    go_enter Try.func64, Try.ntmps64
    go_wp2_with fail
    go_ret
    exact ⟨rfl, 0, rfl⟩
theorem rholds_4 (h : Mach false w B q F cv mv iv ov s) : Calls Try.prog 64 #[.pointer (some ⟨q, 0, none⟩), .int .i64 4] w fun e w' => e = .returned (.bool (s.holds 4)) ∧ ∃ m, w' = w.drewN m := by
  have cc := h.r_c
  obtain ⟨C, hc⟩ : ∃ C, C = s.c := ⟨_, rfl⟩
  rw [← hc] at cc
  have cz := h.r_z
  obtain ⟨Z, hz⟩ : ∃ Z, Z = s.z := ⟨_, rfl⟩
  rw [← hz] at cz
  have e : s.holds 4 = ((C || Z) == true) := by rw [hc, hz]; rfl
  rw [e]
  clear e h hc hz
  cases C <;> cases Z
  all_goals
    go_enter Try.func64, Try.ntmps64
    go_wp2_with fail
    go_ret
    exact ⟨rfl, 0, rfl⟩
theorem rholds_5 (h : Mach false w B q F cv mv iv ov s) : Calls Try.prog 64 #[.pointer (some ⟨q, 0, none⟩), .int .i64 5] w fun e w' => e = .returned (.bool (s.holds 5)) ∧ ∃ m, w' = w.drewN m := by
  have cn := h.r_n
  obtain ⟨N, hn⟩ : ∃ N, N = s.n := ⟨_, rfl⟩
  rw [← hn] at cn
  have cv := h.r_v
  obtain ⟨V, hv⟩ : ∃ V, V = s.v := ⟨_, rfl⟩
  rw [← hv] at cv
  have e : s.holds 5 = ((N != V) == true) := by rw [hn, hv]; rfl
  rw [e]
  clear e h hn hv
  cases N <;> cases V
  all_goals
    go_enter Try.func64, Try.ntmps64
    go_wp2_with fail
    go_quiet (fail)
    go_wp2_with fail
    go_ret
    exact ⟨rfl, _, rfl⟩
theorem rholds_6 (h : Mach false w B q F cv mv iv ov s) : Calls Try.prog 64 #[.pointer (some ⟨q, 0, none⟩), .int .i64 6] w fun e w' => e = .returned (.bool (s.holds 6)) ∧ ∃ m, w' = w.drewN m := by
  have cn := h.r_n
  obtain ⟨N, hn⟩ : ∃ N, N = s.n := ⟨_, rfl⟩
  rw [← hn] at cn
  have cv := h.r_v
  obtain ⟨V, hv⟩ : ∃ V, V = s.v := ⟨_, rfl⟩
  rw [← hv] at cv
  have cz := h.r_z
  obtain ⟨Z, hz⟩ : ∃ Z, Z = s.z := ⟨_, rfl⟩
  rw [← hz] at cz
  have e : s.holds 6 = (((N != V) || Z) == true) := by rw [hn, hv, hz]; rfl
  rw [e]
  clear e h hn hv hz
  cases N <;> cases V <;> cases Z
  all_goals
    go_enter Try.func64, Try.ntmps64
    go_wp2_with fail
    go_quiet (fail)
    go_wp2_with fail
    go_ret
    exact ⟨rfl, _, rfl⟩
theorem rholds_7 (h : Mach false w B q F cv mv iv ov s) : Calls Try.prog 64 #[.pointer (some ⟨q, 0, none⟩), .int .i64 7] w fun e w' => e = .returned (.bool (s.holds 7)) ∧ ∃ m, w' = w.drewN m := by
  have e : s.holds 7 = (true == true) := by rfl
  rw [e]
  clear e h 
  all_goals
    go_enter Try.func64, Try.ntmps64
    go_wp2_with fail
    go_ret
    exact ⟨rfl, 0, rfl⟩
theorem rholds_8 (h : Mach false w B q F cv mv iv ov s) : Calls Try.prog 64 #[.pointer (some ⟨q, 0, none⟩), .int .i64 8] w fun e w' => e = .returned (.bool (s.holds 8)) ∧ ∃ m, w' = w.drewN m := by
  have cn := h.r_n
  obtain ⟨N, hn⟩ : ∃ N, N = s.n := ⟨_, rfl⟩
  rw [← hn] at cn
  have e : s.holds 8 = (N == false) := by rw [hn]; rfl
  rw [e]
  clear e h hn
  cases N
  all_goals
    go_enter Try.func64, Try.ntmps64
    go_wp2_with fail
    go_ret
    exact ⟨rfl, 0, rfl⟩
theorem rholds_9 (h : Mach false w B q F cv mv iv ov s) : Calls Try.prog 64 #[.pointer (some ⟨q, 0, none⟩), .int .i64 9] w fun e w' => e = .returned (.bool (s.holds 9)) ∧ ∃ m, w' = w.drewN m := by
  have cz := h.r_z
  obtain ⟨Z, hz⟩ : ∃ Z, Z = s.z := ⟨_, rfl⟩
  rw [← hz] at cz
  have e : s.holds 9 = (Z == false) := by rw [hz]; rfl
  rw [e]
  clear e h hz
  cases Z
  all_goals
    go_enter Try.func64, Try.ntmps64
    go_wp2_with fail
    go_ret
    exact ⟨rfl, 0, rfl⟩
theorem rholds_10 (h : Mach false w B q F cv mv iv ov s) : Calls Try.prog 64 #[.pointer (some ⟨q, 0, none⟩), .int .i64 10] w fun e w' => e = .returned (.bool (s.holds 10)) ∧ ∃ m, w' = w.drewN m := by
  have cc := h.r_c
  obtain ⟨C, hc⟩ : ∃ C, C = s.c := ⟨_, rfl⟩
  rw [← hc] at cc
  have e : s.holds 10 = (C == false) := by rw [hc]; rfl
  rw [e]
  clear e h hc
  cases C
  all_goals
    go_enter Try.func64, Try.ntmps64
    go_wp2_with fail
    go_ret
    exact ⟨rfl, 0, rfl⟩
theorem rholds_11 (h : Mach false w B q F cv mv iv ov s) : Calls Try.prog 64 #[.pointer (some ⟨q, 0, none⟩), .int .i64 11] w fun e w' => e = .returned (.bool (s.holds 11)) ∧ ∃ m, w' = w.drewN m := by
  have cv := h.r_v
  obtain ⟨V, hv⟩ : ∃ V, V = s.v := ⟨_, rfl⟩
  rw [← hv] at cv
  have e : s.holds 11 = (V == false) := by rw [hv]; rfl
  rw [e]
  clear e h hv
  cases V
  all_goals
    go_enter Try.func64, Try.ntmps64
    go_wp2_with fail
    go_ret
    exact ⟨rfl, 0, rfl⟩
theorem rholds_12 (h : Mach false w B q F cv mv iv ov s) : Calls Try.prog 64 #[.pointer (some ⟨q, 0, none⟩), .int .i64 12] w fun e w' => e = .returned (.bool (s.holds 12)) ∧ ∃ m, w' = w.drewN m := by
  have cc := h.r_c
  obtain ⟨C, hc⟩ : ∃ C, C = s.c := ⟨_, rfl⟩
  rw [← hc] at cc
  have cz := h.r_z
  obtain ⟨Z, hz⟩ : ∃ Z, Z = s.z := ⟨_, rfl⟩
  rw [← hz] at cz
  have e : s.holds 12 = ((C || Z) == false) := by rw [hc, hz]; rfl
  rw [e]
  clear e h hc hz
  cases C <;> cases Z
  all_goals
    go_enter Try.func64, Try.ntmps64
    go_wp2_with fail
    go_ret
    exact ⟨rfl, 0, rfl⟩
theorem rholds_13 (h : Mach false w B q F cv mv iv ov s) : Calls Try.prog 64 #[.pointer (some ⟨q, 0, none⟩), .int .i64 13] w fun e w' => e = .returned (.bool (s.holds 13)) ∧ ∃ m, w' = w.drewN m := by
  have cn := h.r_n
  obtain ⟨N, hn⟩ : ∃ N, N = s.n := ⟨_, rfl⟩
  rw [← hn] at cn
  have cv := h.r_v
  obtain ⟨V, hv⟩ : ∃ V, V = s.v := ⟨_, rfl⟩
  rw [← hv] at cv
  have e : s.holds 13 = ((N != V) == false) := by rw [hn, hv]; rfl
  rw [e]
  clear e h hn hv
  cases N <;> cases V
  all_goals
    go_enter Try.func64, Try.ntmps64
    go_wp2_with fail
    go_quiet (fail)
    go_wp2_with fail
    go_ret
    exact ⟨rfl, _, rfl⟩
theorem rholds_14 (h : Mach false w B q F cv mv iv ov s) : Calls Try.prog 64 #[.pointer (some ⟨q, 0, none⟩), .int .i64 14] w fun e w' => e = .returned (.bool (s.holds 14)) ∧ ∃ m, w' = w.drewN m := by
  have cn := h.r_n
  obtain ⟨N, hn⟩ : ∃ N, N = s.n := ⟨_, rfl⟩
  rw [← hn] at cn
  have cv := h.r_v
  obtain ⟨V, hv⟩ : ∃ V, V = s.v := ⟨_, rfl⟩
  rw [← hv] at cv
  have cz := h.r_z
  obtain ⟨Z, hz⟩ : ∃ Z, Z = s.z := ⟨_, rfl⟩
  rw [← hz] at cz
  have e : s.holds 14 = (((N != V) || Z) == false) := by rw [hn, hv, hz]; rfl
  rw [e]
  clear e h hn hv hz
  cases N <;> cases V <;> cases Z
  all_goals
    go_enter Try.func64, Try.ntmps64
    go_wp2_with fail
    go_quiet (fail)
    go_wp2_with fail
    go_ret
    exact ⟨rfl, _, rfl⟩
theorem rholds_15 (h : Mach false w B q F cv mv iv ov s) : Calls Try.prog 64 #[.pointer (some ⟨q, 0, none⟩), .int .i64 15] w fun e w' => e = .returned (.bool (s.holds 15)) ∧ ∃ m, w' = w.drewN m := by
  have e : s.holds 15 = (true == false) := by rfl
  rw [e]
  clear e h 
  all_goals
    go_enter Try.func64, Try.ntmps64
    go_wp2_with fail
    go_ret
    exact ⟨rfl, 0, rfl⟩
theorem rholds_any (h : Mach false w B q F cv mv iv ov s) (a : Int) (ha : nib a) : Calls Try.prog 64 #[.pointer (some ⟨q, 0, none⟩), .int .i64 a] w fun e w' => e = .returned (.bool (s.holds a)) ∧ ∃ m, w' = w.drewN m := by
  unfold nib at ha
  rcases (by omega : a = 0 ∨ a = 1 ∨ a = 2 ∨ a = 3 ∨ a = 4 ∨ a = 5 ∨ a = 6 ∨ a = 7 ∨ a = 8 ∨ a = 9 ∨ a = 10 ∨ a = 11 ∨ a = 12 ∨ a = 13 ∨ a = 14 ∨ a = 15) with rfl | rfl | rfl | rfl | rfl | rfl | rfl | rfl | rfl | rfl | rfl | rfl | rfl | rfl | rfl | rfl
  · exact rholds_0 h
  · exact rholds_1 h
  · exact rholds_2 h
  · exact rholds_3 h
  · exact rholds_4 h
  · exact rholds_5 h
  · exact rholds_6 h
  · exact rholds_7 h
  · exact rholds_8 h
  · exact rholds_9 h
  · exact rholds_10 h
  · exact rholds_11 h
  · exact rholds_12 h
  · exact rholds_13 h
  · exact rholds_14 h
  · exact rholds_15 h
end
end Go.Proofs.Ytflinbfobadheaa
