/- Contracts of package bits and of the references, the last. -/
import Derived.Test.YtmdhiigonlnoiaaBits2
namespace Go.Proofs.Ytmdhiigonlnoiaa
open Go.RowKit Go.Waf
set_option maxRecDepth 100000
set_option linter.unusedVariables false
attribute [local go_sem] mask1_u64 mask1_u8

def restB (xs : List Int) (p : Nat) : Bool := decide (8 * xs.length - p < 8) && (numAt xs p (8 * xs.length - p) == 0)
theorem numAt_grow (xs : List Int) (p j k : Nat) (h : 0 < numAt xs p j) : 0 < numAt xs p (j + k) := by
  induction k with
  | zero => exact h
  | succ k ih => rw [← Nat.add_assoc, numAt_succ]; omega

set_option maxHeartbeats 800000 in
theorem rest_any (w : World) (B g : Nat) (v : Value) (xs : List Int) (p : Nat) (h : RdAt w B g v xs p) :
    Calls Try.prog 27 #[.pointer (some ⟨g, 0, none⟩)] w fun e w' => e = .returned (.bool (restB xs p)) ∧ ∃ m, w' = w.drewN m := by
  have L := Lib.hid (left_any w B g v xs p h)
  have hpos := h.pos
  have hfew := h.few
  obtain ⟨M, hM⟩ : ∃ M, M = 8 * xs.length - p := ⟨_, rfl⟩
  obtain ⟨r, hr⟩ : ∃ r, r = restB xs p := ⟨_, rfl⟩
  rw [← hr]
  rw [← hM] at L
  by_cases h8 : 8 ≤ M
  · have hrf : r = false := by rw [hr, restB, ← hM]; simp; omega
    subst hrf
    clear hM hr h
    go_enter Try.func27, Try.ntmps27
    go_wp2_with (go_at_call 26; refine L.out.mono ?_; rintro e w' ⟨rfl, m, rfl⟩)
    go_ret
    exact ⟨rfl, m, rfl⟩
  have hr2 : r = (numAt xs p M == 0) := by rw [hr, restB, ← hM]; simp; omega
  obtain ⟨va, vc, rfl, _, _, _⟩ := owns_shape h.row
  have H := Lib.hid h
  have HM := Lib.hid hM
  have HR2 := Lib.hid hr2
  have c0 : ∀ m, (w.drewN m).cell? ⟨g, 0, none⟩ = some (.slice va xs.length vc) := fun m => by show w.cell? _ = _; rw [cell_of_row w g 0 _ _ _ H.out.blk]; rfl
  have c1 : ∀ m, (w.drewN m).cell? ⟨g, 1, none⟩ = some (.int .i64 (p : Nat)) := fun m => by show w.cell? _ = _; rw [cell_of_row w g 1 _ _ _ H.out.blk]; rfl
  clear h hM hr hr2
  go_enter Try.func27, Try.ntmps27
  go_wp2_with (go_at_call 26; refine L.out.mono ?_; rintro e w' ⟨rfl, m, rfl⟩)
  go_loop [3] (fun i => ∃ j : Nat, j ≤ M ∧ i = .int .i64 ((p + j : Nat) : Int) ∧ numAt xs p j = 0) (fun i => p + M - (intOf i).toNat)
  case atStart => exact ⟨0, by omega, rfl, rfl⟩
  case round =>
    obtain ⟨j, hj, rfl, hz⟩ := hrel
    have HZ := Lib.hid hz
    have d0 := c0 m
    have d1 := c1 m
    have HC0 := Lib.hid c0
    have HC1 := Lib.hid c1
    obtain ⟨q, hq⟩ : ∃ q, q = p + j := ⟨_, rfl⟩
    rw [← hq]
    have hqM : q ≤ p + M := by omega
    have hpM : p + M = 8 * xs.length := by rw [HM.out]; omega
    have HPM := Lib.hid hpM
    have HQ := Lib.hid hq
    have hpM1 : p + M ≤ 8 * xs.length := by omega
    have hpM2 : 8 * xs.length ≤ p + M := by omega
    clear hz c0 c1 hq hpM
    by_cases hlt : q < p + M
    · have hq8 : q < 8 * xs.length := by omega
      obtain ⟨b, hb⟩ : ∃ b, b = bitOf xs q := ⟨_, rfl⟩
      have BT := Lib.hid (bit_any (w.drewN m) B g _ xs p (H.out.drewN m) q hq8)
      rw [← hb] at BT
      have HB := Lib.hid hb
      clear hb
      cases b with
      | true =>
        have hx : (b2i true != 0) = true := rfl
        go_wp2_with (go_at_call 52; refine BT.out.mono ?_; rintro e w' ⟨rfl, rfl⟩)
        go_ret
        refine ⟨ret_bool ?_, m, rfl⟩
        have h1 : 0 < numAt xs p (j + 1) := by rw [numAt_succ, ← HQ.out, ← HB.out]; simp
        have h2 := numAt_grow xs p (j + 1) (M - (j + 1)) h1
        rw [show j + 1 + (M - (j + 1)) = M by have := HQ.out; omega] at h2
        rw [HR2.out]; symm; rw [beq_eq_false_iff_ne]; omega
      | false =>
        have hx : (b2i false != 0) = false := rfl
        go_wp2_with (go_at_call 52; refine BT.out.mono ?_; rintro e w' ⟨rfl, rfl⟩)
        go_round
        case rel =>
          have hqq := HQ.out
          exact ⟨j + 1, by omega, by rw [show p + (j + 1) = q + 1 by omega]; go_num, by rw [numAt_succ, HZ.out, ← HQ.out, ← HB.out]; rfl⟩
        case measure => simp [intOf]; omega
    · have hjM : j = M := by have := HQ.out; omega
      have hrt : r = true := by rw [HR2.out, ← hjM, HZ.out]; rfl
      subst hrt
      clear hjM
      go_wp2_with fail
      go_ret
      exact ⟨rfl, m, rfl⟩

def bls (l : List Bool) : List Value := l.map Value.bool
theorem one_bls (xs : List Bool) : ∀ u ∈ bls xs, u.oneCell' = true := by
  intro u hu; obtain ⟨n, _, rfl⟩ := List.mem_map.1 hu; rfl
set_option maxHeartbeats 400000 in
theorem rbits_any (w : World) (x n : Nat) (hx : x < 18446744073709551616) (hn : n ≤ 64) :
    Calls Try.prog 18 #[.int .u64 x, .int .i64 n] w (OwnRet w.heap.size 4 1 n (bls (bitsN x n)) w) := by
  go_enter Try.func18, Try.ntmps18
  go_wp2_with fail
  go_loopw [5, 6] (fun o i wr => ∃ k : Nat, k ≤ n ∧ i = .int .i64 ((n : Int) - 1 - k) ∧ wr.ownsRow w.heap.size 4 1 o k (bls ((bitsN x n).take k)) ∧ Below w.heap.size w wr) (fun _ i _ => (intOf i + 1).toNat)
  case atStart => exact ⟨0, by omega, by simp, by simpa [bls] using World.ownsRow_nil _ _ _ _, Below.refl _ _⟩
  case round =>
    obtain ⟨k, hk, rfl, hown, hb⟩ := hrel
    have hsz := hb.size
    by_cases hlt : k < n
    · have hstep := take_bitsN x n k hlt
      have HS := Lib.hid hstep
      clear hstep
      obtain ⟨b, hbb⟩ : ∃ b, b = (x / 2 ^ (n - 1 - k) % 2 == 1) := ⟨_, rfl⟩
      have hcast : ((x : Int) / 2 ^ (n - 1 - k) % 2 == 1) = b := by
        rw [hbb]
        have h1 : ((x : Int) / 2 ^ (n - 1 - k) % 2) = ((x / 2 ^ (n - 1 - k) % 2 : Nat) : Int) := by push_cast; rfl
        rw [h1, Bool.eq_iff_iff]; simp; omega
      have HBB := Lib.hid hbb
      clear hbb
      go_wp2_with (at_builtin; refine app_own _ elemBool rfl _ _ rfl w.heap.size _ k (bls ((bitsN x n).take k)) rfl (hown.alloc _) _ 1 (bls [b]) rfl (rd_new _ _ _ _ _ (by simp) (by simp [maxLen])) (one_bls _) (by simp only [maxLen]; omega) (by omega) (by simp; omega) ?_; intro v' w2 hown2 hg2)
      go_roundw
      case rel =>
        refine ⟨k + 1, by omega, by congr 1; omega, ?_, below_of_grown (hb.alloc hsz _) (by simp; omega) (hown.alloc _) (Nat.le_refl _) rfl hg2⟩
        rw [HS.out, ← HBB.out]
        simpa [bls] using hown2
      case measure => simp [intOf]; omega
    · obtain rfl : k = n := by omega
      have HO := Lib.hid hown
      clear hown
      go_wp2_with fail
      go_ret
      refine ⟨_, rfl, ?_, hb⟩
      have := HO.out
      rwa [List.take_of_length_le (by rw [bitsN_length]; omega)] at this
end Go.Proofs.Ytmdhiigonlnoiaa
