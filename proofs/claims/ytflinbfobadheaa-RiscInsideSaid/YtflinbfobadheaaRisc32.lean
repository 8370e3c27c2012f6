/- The contract of RiscBranches. -/
import Derived.Test.YtflinbfobadheaaRisc28
import Derived.Test.YtflinbfobadheaaRisc31
namespace Go.Proofs.Ytflinbfobadheaa
open Go.RowKit Go.Waf
set_option maxRecDepth 100000
set_option linter.unusedVariables false
theorem u16_mod' (n : Int) : IntKind.u16.wrap n = n % 65536 := by simp [IntKind.wrap, IntKind.bits, IntKind.signed]

/-- A new machine, run, its result in hand. -/
def Ran (w : World) (s : St) (e : Ending) (w' : World) : Prop := ∃ va vc, e = .returned (.agg #[.slice va s.out.length vc, .int .i64 s.fin, .int .i64 s.trap]) ∧ Below w.heap.size w w'
theorem HBR {w w6 : World} (h : Below w.heap.size w w6) (O1 O2 : Obj) : Below w.heap.size w ((w6.alloc O1).alloc O2) := (h.alloc h.size O1).alloc (by have := h.size; simp; omega) O2
set_option maxHeartbeats 6400000 in
theorem riscBranches_k (a b c : Int) (k : Int) (W : Bool) (hW : brE a b (k % 8) = W) (hc0 : 0 ≤ c) (hc1 : c ≤ 255) (hk : c % 16 = k) (w : World) (w0 : (Lit.int .i16 a).wf = true) (w1 : (Lit.int .i16 b).wf = true) :
    Calls Try.prog 4 #[.int .i16 a, .int .i16 b, .int .u8 c] w fun e w' => e = .returned (.bool true) ∧ Below w.heap.size w w' := by
  obtain ⟨a0, a1⟩ := rng_i16 w0
  obtain ⟨b0, b1⟩ := rng_i16 w1
  have hk16 : 0 ≤ k ∧ k < 16 := by omega
  have KN := Lib.hid (fun W => known_any W)
  obtain ⟨hfin, htrap⟩ := br_run a b k ⟨a0, a1⟩ ⟨b0, b1⟩ hk16
  rw [hW] at htrap
  have HFR := Lib.hid (br_right a b k hk16)
  have HFIN := Lib.hid hfin
  have HTRAP := Lib.hid htrap
  have eT16 : c.tmod 16 = k := by rw [Int.tmod_eq_emod_of_nonneg hc0]; exact hk
  obtain ⟨j, hj⟩ := Int.eq_ofNat_of_zero_le (show 0 ≤ k % 8 by omega)
  have hj8 : j < 8 := by omega
  have eT8 : c.tmod 8 = (j : Int) := by rw [Int.tmod_eq_emod_of_nonneg hc0]; omega
  have j0 : (0 : Int) ≤ (j : Int) := by omega
  have j1 : (j : Int) < 8 := by omega
  rw [hj] at hW
  have eMa : IntKind.u16.wrap a = a % 65536 := u16_mod' a
  have eMb : IntKind.u16.wrap b = b % 65536 := u16_mod' b
  have HW := Lib.hid hW
  clear w0 w1 hfin htrap hW hk
  go_enter Try.func4, Try.ntmps4
  go_wp2_with (go_at_call 11; refine (KN.out _).mono ?_; rintro e wc ⟨rfl, hbc⟩)
  have HBC := Lib.hid hbc
  clear hbc
  refine (put_any _ (brL a b k) HFR.out (by show (6 : Nat) ≤ 1000; omega) _ (rd_new wc (flat (brL a b k)) 27 6 8 rfl (by decide))).mono ?_
  rintro e w2 ⟨cv, rfl, hown, hb2⟩
  have hb2' : Below w.heap.size w w2 := (HBC.out.alloc HBC.out.size _).trans (hb2.mono (by have := HBC.out.size; simp; omega))
  have HB2 := Lib.hid hb2'
  have HRC := Lib.hid (rd_of_owns hown)
  clear hown hb2 hb2'
  go_wp2_with fail
  refine (pnew_n _ _ _ 0 0 (.inl rfl) (brC a b k) [] (fun x hx => ?_) (by show (6 : Nat) ≤ 1000; omega) (by simp) (by simp) (by omega) HRC.out (Rd.nil _ 1)).mono ?_
  · obtain ⟨i, hi, rfl⟩ := List.mem_map.1 hx
    exact enc_in i (HFR.out i hi)
  rintro e w5 ⟨q, F, cv1, mv, iv, rfl, hM, _, _, hb5⟩
  have HM := Lib.hid hM
  have HB5 := Lib.hid (HB2.out.trans (hb5.mono HB2.out.size))
  have HQ := Lib.hid HB2.out.size
  clear hM hb5
  go_wp2_with fail
  refine (prun_any HM.out 9 (by omega) (by omega) (by simp [St.new])).mono ?_
  rintro e w6 ⟨v, F', iv', ov', he, ho, hM6, _, _, hfr⟩
  change e = .returned (.agg #[v, .int .i64 ((St.new (brC a b k) 0 []).stepN 9).fin, .int .i64 ((St.new (brC a b k) 0 []).stepN 9).trap]) at he
  obtain ⟨tr, htr⟩ : ∃ tr : Int, tr = (if (W == decide (k < 8)) then 2 else 1) := ⟨_, rfl⟩
  rw [HFIN.out, HTRAP.out, ← htr] at he
  subst he
  obtain ⟨va, vc, rfl, _, _, _⟩ := owns_shape ho
  obtain ⟨vn, hvn⟩ : ∃ vn, vn = ((St.new (brC a b k) 0 []).stepN (9 : Int).toNat).out.length := ⟨_, rfl⟩
  rw [← hvn]
  have HB6 := Lib.hid (HB5.out.trans (HM.out.fr_below HQ.out hfr))
  have hT : ((w6.alloc (.cells #[.slice va vn vc, .int .i64 2, .int .i64 tr] 30)).alloc (.cells #[.bool (decide (a - b < 0)), .bool (a == b), .bool (decide (a % 4294967296 < b % 4294967296)), .bool false, .bool (decide (a % 4294967296 ≤ b % 4294967296)), .bool (decide (a < b)), .bool (decide (a ≤ b)), .bool true] 4)).cell? ⟨w6.heap.size + 1, j, none⟩ = some (.bool W) := by
    have h := World.cell?_alloc_new (w6.alloc (.cells #[.slice va vn vc, .int .i64 2, .int .i64 tr] 30)) #[.bool (decide (a - b < 0)), .bool (a == b), .bool (decide (a % 4294967296 < b % 4294967296)), .bool false, .bool (decide (a % 4294967296 ≤ b % 4294967296)), .bool (decide (a < b)), .bool (decide (a ≤ b)), .bool true] 4 j
    rw [World.size_alloc] at h
    rw [h]
    have hw := HW.out
    rcases (by omega : j = 0 ∨ j = 1 ∨ j = 2 ∨ j = 3 ∨ j = 4 ∨ j = 5 ∨ j = 6 ∨ j = 7) with rfl | rfl | rfl | rfl | rfl | rfl | rfl | rfl <;> rw [← hw] <;> rfl
  clear ho hM6 hfr HM hvn hj
  have hk8 : decide (8 ≤ k) = !decide (k < 8) := by
    by_cases h : k < 8
    · simp [h]
    · simp [h]; omega
  cases hd : decide (k < 8) <;> cases W
  all_goals
    rw [hd] at htr hk8
    simp only [Bool.not_true, Bool.not_false] at hk8
    simp at htr
    subst htr
    go_wp2_with fail
    go_ret
    exact ⟨rfl, HBR HB6.out _ _⟩
theorem riscBranches_any (a b c : Int) (w : World) (w0 : (Lit.int .i16 a).wf = true) (w1 : (Lit.int .i16 b).wf = true) (w2 : (Lit.int .u8 c).wf = true) :
    Calls Try.prog 4 #[.int .i16 a, .int .i16 b, .int .u8 c] w fun e w' => e = .returned (.bool true) ∧ Below w.heap.size w w' :=
  riscBranches_k a b c (c % 16) _ rfl (rng_u8 w2).1 (rng_u8 w2).2 rfl w w0 w1
end Go.Proofs.Ytflinbfobadheaa
