/- known of layer 8; the walks of VerifyChecks and VerifyHeights. -/
import Derived.Test.YtlnldkciiphidaaVerify8
namespace Go.Proofs.Ytlnldkciiphidaa
open Go.RowKit Go.Waf
set_option maxRecDepth 100000
set_option linter.unusedVariables false

def l0 : List (Int × Int) := [(1, 4), (3, 0), (0, 0)]
def l1 : List (Int × Int) := [(0, 0), (25, 9)]
def vOf (l : List (Int × Int)) (i : Nat) : Int := (l.getD i (0, 0)).1
def nOf (l : List (Int × Int)) (i : Nat) : Int := (l.getD i (0, 0)).2
def H0 (i : Nat) : Int := if i = 0 then 0 else if i = 1 then 1 else if i = 2 then 0 else -1
theorem okay0 : Okay (vOf l0) (nOf l0) 3 := ⟨by omega, by decide⟩
theorem hi0 : Hi (vOf l0) (nOf l0) 0 0 := .start
theorem hi1 : Hi (vOf l0) (nOf l0) 1 1 := by
  have := Hi.next hi0 (by decide) (by decide)
  exact this
theorem hi2 : Hi (vOf l0) (nOf l0) 2 0 := by
  have := Hi.next hi1 (by decide) (by decide)
  exact this
theorem known0 : Known (vOf l0) (nOf l0) H0 := by
  refine ⟨fun i hi => ?_, fun i => ?_, fun i hi => ?_⟩
  · unfold H0 at hi ⊢
    by_cases h : i = 0
    · subst h; exact hi0
    · by_cases h1 : i = 1
      · subst h1; exact hi1
      · by_cases h2 : i = 2
        · subst h2; exact hi2
        · simp [h, h1, h2] at hi
  · unfold H0; split <;> (try split) <;> (try split) <;> omega
  · unfold H0 at hi ⊢
    by_cases h : i = 0
    · simp [h] at hi
    · by_cases h1 : i = 1
      · simp [h1] at hi
      · by_cases h2 : i = 2
        · simp [h2] at hi
        · simp [h, h1, h2]
theorem done0 (i : Nat) (hi : 0 ≤ H0 i) : Done (vOf l0) (nOf l0) H0 i := by
  have h3 : i = 0 ∨ i = 1 ∨ i = 2 := by
    unfold H0 at hi
    by_cases h : i = 0
    · exact .inl h
    · by_cases h1 : i = 1
      · exact .inr (.inl h1)
      · by_cases h2 : i = 2
        · exact .inr (.inr h2)
        · simp [h, h1, h2] at hi
  rcases h3 with rfl | rfl | rfl
  · exact ⟨by decide, fun h => by revert h; decide, fun _ => by decide⟩
  · exact ⟨by decide, fun h => by revert h; decide, fun _ => by decide⟩
  · exact ⟨by decide, fun h => by revert h; decide, fun h => by revert h; decide⟩
theorem good0 : Okay (vOf l0) (nOf l0) 3 ∧ Fine (vOf l0) (nOf l0) := ⟨okay0, fine_of_done known0 rfl done0⟩
theorem list0 : hList (vOf l0) (nOf l0) 3 = [0, 1, 0] := by
  unfold hList
  rw [List.map_congr_left (g := H0) fun j _ => hOf_eq known0 rfl done0 j]
  decide
theorem fits (l : List (Int × Int)) (h : l.all (fun p => decide ((Lit.int .i64 p.1).wf = true ∧ (Lit.int .i32 p.2).wf = true)) = true) : ∀ p ∈ l, FitP p := fun p hp => by
  have := List.all_eq_true.1 h p hp
  simpa [FitP] using this
theorem pairs_lit (w : World) (l : List (Int × Int)) (n : Nat) (hl : l.length = n) (hn : n ≤ 100) (hf : ∀ p ∈ l, FitP p) (T : TypeId) : PairsAt (w.alloc (.cells (codes l).toArray T)) .i64 .i32 (some ⟨w.heap.size, 0, none⟩) n n (vOf l) (nOf l) :=
  pairs_of_rd hl (rd_new w (codes l) T n 2 (by rw [codes_length, hl]) (by simp only [maxLen]; omega)) hf

set_option maxHeartbeats 1600000 in
theorem known8 (w : World) : Calls Try.prog 5 #[] w fun e w' => e = .returned (.bool true) ∧ Below w.heap.size w w' := by
  have hp0 := pairs_lit w l0 3 rfl (by omega) (fits l0 (by decide)) 36
  have HC := Lib.hid (check_good _ _ 3 3 _ _ hp0 okay0)
  have HP0 := Lib.hid hp0
  have HF1 := Lib.hid (show firstBad (vOf l1) (nOf l1) 2 = 1 from by decide)
  clear hp0
  go_enter Try.func5, Try.ntmps5
  go_wp2_with fail
  refine HC.out.mono ?_; rintro e w1 ⟨rfl, hb1⟩
  have hb1' : Below w.heap.size w w1 := ((Below.refl _ _).alloc (Nat.le_refl _) (.cells (codes l0).toArray 36)).trans (hb1.mono (by simp))
  have HH := Lib.hid (heights_any w1 _ 3 3 _ _ (by omega) (HP0.out.below hb1 (Nat.le_refl _)))
  have HB1 := Lib.hid hb1'
  clear hb1 hb1'
  go_wp2_with fail
  refine HH.out.mono ?_; rintro e w2 ⟨hb2, h | h⟩
  · obtain ⟨_, v, rfl, hrd⟩ := h
    rw [list0] at hrd
    have HB2 := Lib.hid (HB1.out.trans (hb2.mono HB1.out.size))
    have HRD := Lib.hid hrd
    have hp1 := pairs_lit w2 l1 2 rfl (by omega) (fits l1 (by decide)) 36
    have hc1 := check_any _ _ 2 2 _ _ hp1
    rw [HF1.out] at hc1
    have HC1 := Lib.hid hc1
    clear hb2 hrd hp1 hc1
    go_wp2_with fail
    refine HC1.out.mono ?_; rintro e w3 ⟨rfl, hb3⟩
    have HB3 := Lib.hid (HB2.out.trans ((((Below.refl w2.heap.size w2).alloc (Nat.le_refl _) (.cells (codes l1).toArray 36)).trans (hb3.mono (by simp))).mono HB2.out.size))
    have hrd3 := (HRD.out.below ((Below.refl w2.heap.size w2).alloc (Nat.le_refl _) (.cells (codes l1).toArray 36)) (Nat.le_refl _)).below hb3 (Nat.le_refl _)
    have HI := Lib.hid (ints_same (w3.alloc (.cells (ints [0, 1, 0]).toArray 3)) _ _ 3 [0, 1, 0] (hrd3.below ((Below.refl w3.heap.size w3).alloc (Nat.le_refl _) (.cells (ints [0, 1, 0]).toArray 3)) (Nat.le_refl _)) (rd_new w3 (ints [0, 1, 0]) 3 3 1 rfl (by simp [maxLen])))
    clear hb3 hrd3
    go_wp2_with fail
    refine HI.out.mono ?_; rintro e w4 ⟨rfl, m, rfl⟩
    go_wp2_with fail
    go_ret
    exact ⟨rfl, below_drewN (HB3.out.alloc HB3.out.size _) m⟩
  · exact absurd good0 h.1

/-- The two lists, each in its turn. -/
def TwoAt (w0 w : World) (q : Nat) : Prop :=
  Below w0.heap.size w0 w ∧ ∀ j, j < 2 → ∃ a n cap V N, n ≤ 100 ∧ w.cell? ⟨q, j, none⟩ = some (.slice a n cap) ∧ PairsAt w .i64 .i32 a n cap V N
theorem TwoAt.below {w0 w w' : World} {q : Nat} (h : TwoAt w0 w q) (hb : Below w.heap.size w w') : TwoAt w0 w' q :=
  ⟨h.1.trans (hb.mono h.1.size), fun j hj => by obtain ⟨a, n, cap, V, N, h1, h2, h3⟩ := h.2 j hj; exact ⟨a, n, cap, V, N, h1, cell_below hb (Nat.le_refl _) h2, h3.below hb (Nat.le_refl _)⟩⟩
theorem two_new (w0 w1 : World) (a a' : Option Addr) (n n' cap cap' : Nat) (V N V' N' : Nat → Int) (hb : Below w0.heap.size w0 w1) (h : PairsAt w1 .i64 .i32 a n cap V N) (h' : PairsAt w1 .i64 .i32 a' n' cap' V' N') (hn : n ≤ 100) (hn' : n' ≤ 100) (T : TypeId) :
    TwoAt w0 (w1.alloc (.cells #[.slice a n cap, .slice a' n' cap'] T)) w1.heap.size := by
  have hn1 : Below w1.heap.size w1 (w1.alloc (.cells #[.slice a n cap, .slice a' n' cap'] T)) := (Below.refl _ _).alloc (Nat.le_refl _) _
  refine ⟨hb.trans (hn1.mono hb.size), fun j hj => ?_⟩
  rcases (by omega : j = 0 ∨ j = 1) with rfl | rfl
  · exact ⟨a, n, cap, V, N, hn, by rw [World.cell?_alloc_new]; rfl, h.below hn1 (Nat.le_refl _)⟩
  · exact ⟨a', n', cap', V', N', hn', by rw [World.cell?_alloc_new]; rfl, h'.below hn1 (Nat.le_refl _)⟩

set_option maxHeartbeats 1600000 in
theorem verifyChecks_law (a : Option Addr) (n cap : Nat) (V N : Nat → Int) (w : World) (hp : PairsAt w .i64 .i32 a n cap V N) :
    Calls Try.prog 3 #[.slice a n cap] w fun e w' => e = .returned (.bool true) ∧ Below w.heap.size w w' := by
  have hle := hp.le
  have hcap := hp.cap63
  have HP := Lib.hid hp
  clear hp
  by_cases hbig : 60 < n
  · go_enter Try.func3, Try.ntmps3
    go_wp2_with fail
    refine (known8 _).mono ?_; rintro e w1 ⟨rfl, hb1⟩
    go_wp2_with fail
    go_ret
    exact ⟨rfl, hb1⟩
  · go_enter Try.func3, Try.ntmps3
    go_wp2_with fail
    refine (known8 _).mono ?_; rintro e w1 ⟨rfl, hb1⟩
    have HM := Lib.hid (made_any w1 a n cap V N (by omega) (HP.out.below hb1 (Nat.le_refl _)))
    have HB1 := Lib.hid hb1
    clear hb1
    go_wp2_with fail
    refine HM.out.mono ?_; rintro e w2 ⟨a2, cap2, V2, N2, rfl, hp2, hb2⟩
    have HB2 := Lib.hid (HB1.out.trans (hb2.mono HB1.out.size))
    have HT := Lib.hid (two_new w w2 a a2 n (n + 1) cap cap2 V N V2 N2 HB2.out (HP.out.below HB2.out (Nat.le_refl _)) hp2 (by omega) (by omega) 22)
    clear hp2 hb2
    go_wp2_with fail
    go_loopw [18] (fun i wr => ∃ k : Nat, k ≤ 2 ∧ i = .int .i64 (k : Int) ∧ TwoAt w wr w2.heap.size) (fun i _ => 2 - (intOf i).toNat)
    case atStart => exact ⟨0, by omega, rfl, HT.out⟩
    case round =>
      obtain ⟨k, hk, rfl, hT⟩ := hrel
      by_cases hlt : k < 2
      · obtain ⟨ax, nx, cx, Vx, Nx, hnx, hcx, hpx⟩ := hT.2 k hlt
        have HC := Lib.hid (check_any wr ax nx cx Vx Nx hpx)
        have HPX := Lib.hid hpx
        have HTT := Lib.hid hT
        obtain ⟨K, hK⟩ : ∃ K, K = firstBad Vx Nx nx := ⟨_, rfl⟩
        have hKn : K ≤ nx := by rw [hK]; exact firstBad_le _ _ _
        have HK := Lib.hid hK
        have hc1 := HC.out
        rw [← hK] at hc1
        rcases (by omega : K < nx ∨ (K = nx ∧ nx = 0) ∨ (K = nx ∧ 0 < nx)) with h | ⟨h, h0⟩ | ⟨h, h0⟩
        · rw [if_pos h] at hc1
          have HC1 := Lib.hid hc1
          clear hT hpx hK hc1 HC
          go_wp2_with fail
          refine HC1.out.mono ?_; rintro e w3 ⟨rfl, hb3⟩
          have hr := rcheck_any w3 ax nx cx Vx Nx (HPX.out.below hb3 (Nat.le_refl _))
          rw [← HK.out, if_pos h] at hr
          have HR := Lib.hid hr
          have HT3 := Lib.hid (HTT.out.below hb3)
          clear hb3 hr
          go_wp2_with fail
          refine HR.out.mono ?_; rintro e w4 ⟨rfl, hb4⟩
          have HT4 := Lib.hid (HT3.out.below hb4)
          clear hb4
          go_wp2_with fail
          go_roundw
          case rel => exact ⟨k + 1, by omega, by go_num, HT4.out⟩
          case measure => simp [intOf]; omega
        · rw [if_neg (by omega), if_pos h0] at hc1
          have HC1 := Lib.hid hc1
          have H1 := Lib.hid h
          have H2 := Lib.hid h0
          clear hT hpx hK hc1 HC h h0
          go_wp2_with fail
          refine HC1.out.mono ?_; rintro e w3 ⟨rfl, hb3⟩
          have hr := rcheck_any w3 ax nx cx Vx Nx (HPX.out.below hb3 (Nat.le_refl _))
          rw [← HK.out, if_neg (by have := H1.out; omega), if_pos H2.out] at hr
          have HR := Lib.hid hr
          have HT3 := Lib.hid (HTT.out.below hb3)
          clear hb3 hr
          go_wp2_with fail
          refine HR.out.mono ?_; rintro e w4 ⟨rfl, hb4⟩
          have HT4 := Lib.hid (HT3.out.below hb4)
          clear hb4
          go_wp2_with fail
          go_roundw
          case rel => exact ⟨k + 1, by omega, by go_num, HT4.out⟩
          case measure => simp [intOf]; omega
        · rw [if_neg (by omega), if_neg (by omega)] at hc1
          have HC1 := Lib.hid hc1
          have H1 := Lib.hid h
          clear hT hpx hK hc1 HC h
          go_wp2_with fail
          refine HC1.out.mono ?_; rintro e w3 ⟨rfl, hb3⟩
          have hr := rcheck_any w3 ax nx cx Vx Nx (HPX.out.below hb3 (Nat.le_refl _))
          rw [← HK.out, if_neg (by have := H1.out; omega), if_neg (by omega)] at hr
          have HR := Lib.hid hr
          have HT3 := Lib.hid (HTT.out.below hb3)
          clear hb3 hr
          go_wp2_with fail
          refine HR.out.mono ?_; rintro e w4 ⟨rfl, hb4⟩
          have HT4 := Lib.hid (HT3.out.below hb4)
          clear hb4
          go_wp2_with fail
          go_roundw
          case rel => exact ⟨k + 1, by omega, by go_num, HT4.out⟩
          case measure => simp [intOf]; omega
      · obtain rfl : k = 2 := by omega
        go_wp2_with fail
        go_ret
        exact ⟨rfl, hT.1⟩

set_option maxHeartbeats 1600000 in
theorem verifyHeights_law (a : Option Addr) (n cap : Nat) (V N : Nat → Int) (w : World) (hp : PairsAt w .i64 .i32 a n cap V N) :
    Calls Try.prog 4 #[.slice a n cap] w fun e w' => e = .returned (.bool true) ∧ Below w.heap.size w w' := by
  have hle := hp.le
  have hcap := hp.cap63
  have HP := Lib.hid hp
  clear hp
  by_cases hbig : 60 < n
  · go_enter Try.func4, Try.ntmps4
    go_wp2_with fail
    refine (known8 _).mono ?_; rintro e w1 ⟨rfl, hb1⟩
    go_wp2_with fail
    go_ret
    exact ⟨rfl, hb1⟩
  · go_enter Try.func4, Try.ntmps4
    go_wp2_with fail
    refine (known8 _).mono ?_; rintro e w1 ⟨rfl, hb1⟩
    have HM := Lib.hid (made_any w1 a n cap V N (by omega) (HP.out.below hb1 (Nat.le_refl _)))
    have HB1 := Lib.hid hb1
    clear hb1
    go_wp2_with fail
    refine HM.out.mono ?_; rintro e w2 ⟨a2, cap2, V2, N2, rfl, hp2, hb2⟩
    have HB2 := Lib.hid (HB1.out.trans (hb2.mono HB1.out.size))
    have HT := Lib.hid (two_new w w2 a a2 n (n + 1) cap cap2 V N V2 N2 HB2.out (HP.out.below HB2.out (Nat.le_refl _)) hp2 (by omega) (by omega) 22)
    clear hp2 hb2
    go_wp2_with fail
    go_loopw [19] (fun i wr => ∃ k : Nat, k ≤ 2 ∧ i = .int .i64 (k : Int) ∧ TwoAt w wr w2.heap.size) (fun i _ => 2 - (intOf i).toNat)
    case atStart => exact ⟨0, by omega, rfl, HT.out⟩
    case round =>
      obtain ⟨k, hk, rfl, hT⟩ := hrel
      by_cases hlt : k < 2
      · obtain ⟨ax, nx, cx, Vx, Nx, hnx, hcx, hpx⟩ := hT.2 k hlt
        have HC := Lib.hid (heights_any wr ax nx cx Vx Nx (by omega) hpx)
        have HPX := Lib.hid hpx
        have HTT := Lib.hid hT
        clear hT hpx
        go_wp2_with fail
        refine HC.out.mono ?_; rintro e w3 ⟨hb3, h | h⟩
        · obtain ⟨hg, v, rfl, hrd⟩ := h
          have HR := Lib.hid (rheights_any w3 ax nx cx Vx Nx (by omega) (HPX.out.below hb3 (Nat.le_refl _)))
          have HT3 := Lib.hid (HTT.out.below hb3)
          have HG := Lib.hid hg
          have HRD := Lib.hid hrd
          clear hb3 hg hrd
          go_wp2_with fail
          refine HR.out.mono ?_; rintro e w4 ⟨hb4, h | h⟩
          · obtain ⟨_, v4, rfl, hrd4⟩ := h
            have HT4 := Lib.hid (HT3.out.below hb4)
            have HI := Lib.hid (ints_same w4 v v4 nx _ (HRD.out.below hb4 (Nat.le_refl _)) hrd4)
            clear hb4 hrd4
            go_wp2_with fail
            refine HI.out.mono ?_; rintro e w5 ⟨rfl, m, rfl⟩
            go_wp2_with fail
            go_roundw
            case rel => exact ⟨k + 1, by omega, by go_num, HT4.out.below (below_drewN (Below.refl _ _) m)⟩
            case measure => simp [intOf]; omega
          · exact absurd HG.out h.1
        · obtain ⟨hg, rfl⟩ := h
          have HR := Lib.hid (rheights_any w3 ax nx cx Vx Nx (by omega) (HPX.out.below hb3 (Nat.le_refl _)))
          have HT3 := Lib.hid (HTT.out.below hb3)
          have HG := Lib.hid hg
          clear hb3 hg
          go_wp2_with fail
          refine HR.out.mono ?_; rintro e w4 ⟨hb4, h | h⟩
          · exact absurd h.1 HG.out
          · obtain ⟨_, rfl⟩ := h
            have HT4 := Lib.hid (HT3.out.below hb4)
            have HI := Lib.hid (ints_same w4 (.slice none 0 0) (.slice none 0 0) 0 [] (Rd.nil _ _) (Rd.nil _ _))
            clear hb4
            go_wp2_with fail
            refine HI.out.mono ?_; rintro e w5 ⟨rfl, m, rfl⟩
            go_wp2_with fail
            go_roundw
            case rel => exact ⟨k + 1, by omega, by go_num, HT4.out.below (below_drewN (Below.refl _ _) m)⟩
            case measure => simp [intOf]; omega
      · obtain rfl : k = 2 := by omega
        go_wp2_with fail
        go_ret
        exact ⟨rfl, hT.1⟩
end Go.Proofs.Ytlnldkciiphidaa
