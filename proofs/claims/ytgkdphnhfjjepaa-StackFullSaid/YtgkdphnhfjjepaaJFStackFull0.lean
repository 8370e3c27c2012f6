/- The walks and the plain lemmas of the statement, joined: part 8. No condition. -/
import Derived.Test.YtgkdphnhfjjepaaJStk427
import Derived.Test.YtgkdphnhfjjepaaJStk420

/- The contract of StackFull. -/
namespace Go.Proofs.Ytgkdphnhfjjepaa
open Go.RowKit Go.Waf
set_option maxRecDepth 100000
set_option linter.unusedVariables false
set_option linter.unusedSimpArgs false

def fcodeA : List (Int × Int) := [(27, 0), (0, 0)]
def fcodeB : List (Int × Int) := [(1, 7), (25, 0)]
def fsA (kept : List (Int × Int)) : SSt := ⟨fcodeA, zeros 10, [], [], 0, 0, kept, 0, [], 0, 0⟩
def fsB (st : List Int) : SSt := ⟨fcodeB, zeros 10, [], st, 0, 0, [], 0, [], 0, 0⟩
theorem fsA_step0 (l : List (Int × Int)) : (fsA l).step = (if l.length < 1000 then some (fsA ((1, 0) :: l)) else none).getD (fsA l).fault := by kernel_rfl
theorem fsB_step0 (l : List Int) : (fsB l).step = (if l.length < 1000 then some { fsB (7 :: l) with pc := 1 } else none).getD (fsB l).fault := by kernel_rfl
theorem fsB_step1 (l : List Int) : ({ fsB l with pc := 1 } : SSt).step = fsB l := by kernel_rfl
theorem fsA_all : ∀ (j : Nat), j ≤ 1000 → (fsA []).stepN j = fsA (List.replicate j (1, 0))
  | 0, _ => rfl
  | j + 1, h => by
    rw [SSt.stepN_succ, fsA_all j (by omega), fsA_step0, List.length_replicate, if_pos (by omega)]
    rfl
theorem fsB_all : ∀ (j : Nat), j ≤ 1000 → (fsB []).stepN (2 * j) = fsB (List.replicate j 7)
  | 0, _ => rfl
  | j + 1, h => by
    rw [show 2 * (j + 1) = 2 * j + 1 + 1 by omega, SSt.stepN_succ, SSt.stepN_succ, fsB_all j (by omega), fsB_step0, List.length_replicate, if_pos (by omega)]
    exact fsB_step1 _
theorem fsA_end (k : Nat) (h : k ≤ 1009) : ((fsA []).stepN k).fin = (if k ≤ 1000 then 0 else 2) ∧ (1000 < k → ((fsA []).stepN k).trap = 15) := by
  by_cases hk : k ≤ 1000
  · rw [if_pos hk, fsA_all k hk]; exact ⟨rfl, fun h => absurd hk (by omega)⟩
  · have e : (fsA []).stepN k = (fsA (List.replicate 1000 (1, 0))).fault := by
      rw [show k = 1000 + (1 + (k - 1001)) by omega, SSt.stepN_add, fsA_all 1000 (by omega), SSt.stepN_add]
      have e1 : (fsA (List.replicate 1000 (1, 0))).stepN 1 = (fsA (List.replicate 1000 (1, 0))).fault := by
        show (fsA (List.replicate 1000 (1, 0))).step = _
        rw [fsA_step0, List.length_replicate, if_neg (by omega)]; rfl
      rw [e1, SSt.stepN_stop _ (by decide)]
    rw [if_neg hk, e]; exact ⟨rfl, fun _ => rfl⟩
theorem fsB_end (k : Nat) (h0 : 1 ≤ k) (h : k ≤ 1009) : ((fsB []).stepN (2 * k - 1)).fin = (if k ≤ 1000 then 0 else 2) ∧ ((fsB []).stepN (2 * k - 1)).st.length = (if k ≤ 1000 then k else 1000) := by
  by_cases hk : k ≤ 1000
  · rw [if_pos hk, if_pos hk, show 2 * k - 1 = 2 * (k - 1) + 1 by omega, SSt.stepN_succ, fsB_all (k - 1) (by omega), fsB_step0, List.length_replicate, if_pos (by omega)]
    refine ⟨rfl, ?_⟩
    show (7 :: List.replicate (k - 1) (7 : Int)).length = k
    simp; omega
  · have e : (fsB []).stepN (2 * k - 1) = (fsB (List.replicate 1000 7)).fault := by
      rw [show 2 * k - 1 = 2 * 1000 + (1 + (2 * k - 2002)) by omega, SSt.stepN_add, fsB_all 1000 (by omega), SSt.stepN_add]
      have e1 : (fsB (List.replicate 1000 7)).stepN 1 = (fsB (List.replicate 1000 7)).fault := by
        show (fsB (List.replicate 1000 7)).step = _
        rw [fsB_step0, List.length_replicate, if_neg (by omega)]; rfl
      rw [e1, SSt.stepN_stop _ (by decide)]
    rw [if_neg hk, if_neg hk, e]
    refine ⟨rfl, ?_⟩
    show (List.replicate 1000 (7 : Int)).length = 1000
    rw [List.length_replicate]
theorem fcodeA_ok : CodeOk fcodeA := by
  intro c hc
  unfold I32
  simp [fcodeA] at hc
  rcases hc with rfl | rfl <;> simp
theorem fcodeB_ok : CodeOk fcodeB := by
  intro c hc
  unfold I32
  simp [fcodeB] at hc
  rcases hc with rfl | rfl <;> simp
theorem full_mod (n : Int) (h0 : 0 ≤ n) (h1 : n ≤ 65535) : ∃ (m : Int) (k : Nat), n.tmod 20 = m ∧ n % 20 = m ∧ 0 ≤ m ∧ m < 20 ∧ 990 + m = (k : Int) ∧ 990 ≤ k ∧ k ≤ 1009 :=
  ⟨n % 20, (990 + n % 20).toNat, Int.tmod_eq_emod_of_nonneg h0, rfl, by omega, by omega, by omega, by omega, by omega⟩
set_option maxHeartbeats 3200000 in
theorem full_a (n : Int) (w : World) (h0 : 0 ≤ n) (h1 : n ≤ 65535) :
    Calls Try.prog 3 #[.int .u16 n, .bool true] w fun e w' => e = .returned (.bool true) ∧ Below w.heap.size w w' := by
  have KN := Lib.hid (fun W => known_any W)
  obtain ⟨m, k, eT, eM, hm0, hm1, eS, kl, ku⟩ := full_mod n h0 h1
  obtain ⟨hA, hT⟩ := fsA_end k ku
  obtain ⟨fin, hfin⟩ : ∃ f, f = ((fsA []).stepN k).fin := ⟨_, rfl⟩
  obtain ⟨trap, htrap⟩ : ∃ f, f = ((fsA []).stepN k).trap := ⟨_, rfl⟩
  rw [← hfin] at hA
  rw [← htrap] at hT
  have HF := Lib.hid hfin
  have HTr := Lib.hid htrap
  have HA := Lib.hid hA
  have HT := Lib.hid hT
  clear hA hT hfin htrap
  go_enter Try.func3, Try.ntmps3
  go_wp2_with (go_at_call 11; refine (KN.out _).mono ?_; rintro e wc ⟨rfl, hbc⟩; have HBC := Lib.hid hbc; clear hbc)
  have hrc := rd_new (wc.alloc (.cells #[.int .i64 1, .int .i32 7, .int .i64 25, .int .i32 0] 25)) (codeCells fcodeA) 25 2 2 rfl (by decide)
  have hsz : (wc.alloc (.cells #[.int .i64 1, .int .i32 7, .int .i64 25, .int .i32 0] 25)).heap.size = wc.heap.size + 1 := by simp
  rw [hsz] at hrc
  have HBA := Lib.hid ((HBC.out.alloc HBC.out.size (.cells #[.int .i64 1, .int .i32 7, .int .i64 25, .int .i32 0] 25)).alloc (HBC.out.alloc HBC.out.size (.cells #[.int .i64 1, .int .i32 7, .int .i64 25, .int .i32 0] 25)).size (.cells #[.int .i64 27, .int .i32 0, .int .i64 0, .int .i32 0] 25))
  refine (pnew_any _ _ _ 10 10 0 (.inl rfl) fcodeA [] fcodeA_ok (by decide) (by simp) (by simp) (by omega) hrc (Rd.nil _ 1)).mono ?_
  rintro e w5 ⟨q, F, cv, mv, iv, rfl, hM, _, _, hb5⟩
  have HM := Lib.hid (show SM true w5 _ q F cv mv iv (.slice none 0 0) (.slice none 0 0) (.slice none 0 0) (fsA []) from hM)
  have HB5 := Lib.hid (HBA.out.trans (hb5.mono HBA.out.size))
  clear hM hb5 hrc hsz
  go_wp2_with fail
  refine (prun_any HM.out (k : Int) (by omega) (by omega) (by simp [fsA])).mono ?_
  rintro e w6 ⟨v, he, ho, F', iv', sv', kv', ov', hM6, _, hmv⟩
  rw [Int.toNat_natCast] at he
  rw [← HF.out, ← HTr.out] at he
  subst he
  obtain ⟨va, vc, rfl, _, _, _⟩ := owns_shape ho
  have HB6 := Lib.hid (HB5.out.trans (HM.out.fr_below HBA.out.size hmv))
  clear ho hM6 hmv
  by_cases hk : k ≤ 1000
  · have hfin : fin = 0 := by have := HA.out; rw [if_pos hk] at this; exact this
    subst hfin
    have hk2 : (k : Int) ≤ 1000 := by omega
    go_wp2_with fail
    go_ret
    exact ⟨rfl, HB6.out.alloc HB6.out.size _⟩
  · have hfin : fin = 2 := by have := HA.out; rw [if_neg hk] at this; exact this
    have htr : trap = 15 := HT.out (by omega)
    subst hfin htr
    have hk2 : ¬ (k : Int) ≤ 1000 := by omega
    have hk4 : decide ((k : Int) ≤ 1000) = false := decide_eq_false hk2
    go_wp2_with fail
    go_ret
    exact ⟨rfl, HB6.out.alloc HB6.out.size _⟩
set_option maxHeartbeats 3200000 in
theorem full_b (n : Int) (w : World) (h0 : 0 ≤ n) (h1 : n ≤ 65535) :
    Calls Try.prog 3 #[.int .u16 n, .bool false] w fun e w' => e = .returned (.bool true) ∧ Below w.heap.size w w' := by
  have KN := Lib.hid (fun W => known_any W)
  obtain ⟨m, k, eT, eM, hm0, hm1, eS, kl, ku⟩ := full_mod n h0 h1
  obtain ⟨hA, hT⟩ := fsB_end k (by omega) ku
  obtain ⟨fin, hfin⟩ : ∃ f, f = ((fsB []).stepN (2 * k - 1)).fin := ⟨_, rfl⟩
  rw [← hfin] at hA
  have HF := Lib.hid hfin
  have HA := Lib.hid hA
  have HT := Lib.hid hT
  have e2 : IntKind.i64.wrap (2 * (k : Int)) = 2 * k := IntWalk.i64_in _ (by omega)
  have e3 : IntKind.i64.wrap (2 * (k : Int) - 1) = 2 * k - 1 := IntWalk.i64_in _ (by omega)
  clear hA hT hfin
  go_enter Try.func3, Try.ntmps3
  go_wp2_with (go_at_call 11; refine (KN.out _).mono ?_; rintro e wc ⟨rfl, hbc⟩; have HBC := Lib.hid hbc; clear hbc)
  have hrc := rd_new wc (codeCells fcodeB) 25 2 2 rfl (by decide)
  have HBA := Lib.hid (HBC.out.alloc HBC.out.size (.cells #[.int .i64 1, .int .i32 7, .int .i64 25, .int .i32 0] 25))
  refine (pnew_any _ _ _ 10 10 0 (.inl rfl) fcodeB [] fcodeB_ok (by decide) (by simp) (by simp) (by omega) hrc (Rd.nil _ 1)).mono ?_
  rintro e w5 ⟨q, F, cv, mv, iv, rfl, hM, _, _, hb5⟩
  have HM := Lib.hid (show SM true w5 _ q F cv mv iv (.slice none 0 0) (.slice none 0 0) (.slice none 0 0) (fsB []) from hM)
  have HB5 := Lib.hid (HBA.out.trans (hb5.mono HBA.out.size))
  clear hM hb5 hrc
  go_wp2_with fail
  refine (prun_any HM.out (2 * (k : Int) - 1) (by omega) (by omega) (by simp [fsB])).mono ?_
  rintro e w6 ⟨v, he, ho, F', iv', sv', kv', ov', hM6, _, hmv⟩
  have e4 : (2 * (k : Int) - 1).toNat = 2 * k - 1 := by omega
  rw [e4] at he hM6
  rw [← HF.out] at he
  obtain ⟨trap, htrap⟩ : ∃ f, f = ((fsB []).stepN (2 * k - 1)).trap := ⟨_, rfl⟩
  rw [← htrap] at he
  subst he
  obtain ⟨va, vc, rfl, _, _, _⟩ := owns_shape ho
  have HB6 := Lib.hid (HB5.out.trans (HM.out.fr_below HBA.out.size hmv))
  have HOP := Lib.hid (fun O : Obj => pops_any (hM6.alloc O))
  clear ho hM6 hmv htrap e4
  by_cases hk : k ≤ 1000
  · have hfin : fin = 0 := by have := HA.out; rw [if_pos hk] at this; exact this
    have hlen : ((fsB []).stepN (2 * k - 1)).st.length = k := by have := HT.out; rw [if_pos hk] at this; exact this
    rw [hlen] at HOP
    subst hfin
    have hk2 : (k : Int) ≤ 1000 := by omega
    have hk3 : ¬ 1000 < (k : Int) := by omega
    clear hlen
    go_wp2_with fail
    refine (HOP.out _).mono ?_; rintro e w8 ⟨v8, rfl, ho8, hb8⟩
    obtain ⟨a8, c8, rfl, _⟩ := owns_shape ho8
    have HB8 := Lib.hid ((HB6.out.alloc HB6.out.size _).trans (hb8.mono (HB6.out.alloc HB6.out.size _).size))
    clear ho8 hb8
    go_wp2_with fail
    go_ret
    exact ⟨rfl, HB8.out⟩
  · have hfin : fin = 2 := by have := HA.out; rw [if_neg hk] at this; exact this
    have hlen : ((fsB []).stepN (2 * k - 1)).st.length = 1000 := by have := HT.out; rw [if_neg hk] at this; exact this
    rw [hlen] at HOP
    subst hfin
    have hk2 : ¬ (k : Int) ≤ 1000 := by omega
    have hk4 : decide ((k : Int) ≤ 1000) = false := decide_eq_false hk2
    have hk3 : 1000 < (k : Int) := by omega
    clear hlen
    go_wp2_with fail
    refine (HOP.out _).mono ?_; rintro e w8 ⟨v8, rfl, ho8, hb8⟩
    obtain ⟨a8, c8, rfl, _⟩ := owns_shape ho8
    have HB8 := Lib.hid ((HB6.out.alloc HB6.out.size _).trans (hb8.mono (HB6.out.alloc HB6.out.size _).size))
    clear ho8 hb8
    go_wp2_with fail
    go_ret
    exact ⟨rfl, HB8.out⟩
theorem stackFull_any (n : Int) (b : Bool) (w : World) (w0 : (Lit.int .u16 n).wf = true) :
    Calls Try.prog 3 #[.int .u16 n, .bool b] w fun e w' => e = .returned (.bool true) ∧ Below w.heap.size w w' := by
  obtain ⟨h0, h1⟩ := rng_u16 w0
  cases b
  · exact full_b n w h0 h1
  · exact full_a n w h0 h1
end Go.Proofs.Ytgkdphnhfjjepaa
