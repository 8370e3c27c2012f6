/- Contracts of verify.Check. -/
import Derived.Test.YtlnldkciiphidaaVerify
namespace Go.Proofs.Ytlnldkciiphidaa
open Go.RowKit Go.Waf
set_option maxRecDepth 100000
set_option linter.unusedVariables false

def badAt (V N : Nat → Int) (n i : Nat) : Bool := wrongC (V i) (N i) n || (decide (i + 1 = n) && !endsC (V i))
/-- The first instruction that may not be; n, if none. -/
def firstBad (V N : Nat → Int) (n : Nat) : Nat := (List.range n).findIdx (badAt V N n)
theorem firstBad_le (V N : Nat → Int) (n : Nat) : firstBad V N n ≤ n := by
  have := List.findIdx_le_length (xs := List.range n) (p := badAt V N n)
  simpa [firstBad] using this
theorem firstBad_at (V N : Nat → Int) (n : Nat) (h : firstBad V N n < n) : badAt V N n (firstBad V N n) = true := by
  have hl : (List.range n).findIdx (badAt V N n) < (List.range n).length := by simpa [firstBad] using h
  have := List.findIdx_getElem (xs := List.range n) (p := badAt V N n) (w := hl)
  simpa [firstBad] using this
theorem firstBad_before (V N : Nat → Int) (n i : Nat) (h : i < firstBad V N n) : badAt V N n i = false := by
  have hi : i < n := Nat.lt_of_lt_of_le h (firstBad_le V N n)
  have := List.not_of_lt_findIdx (xs := List.range n) (p := badAt V N n) h
  simpa using this

set_option maxHeartbeats 1600000 in
theorem check_any (w : World) (a : Option Addr) (n cap : Nat) (V N : Nat → Int) (hp : PairsAt w .i64 .i32 a n cap V N) :
    Calls Try.prog 7 #[.slice a n cap] w fun e w' => e = .returned (if firstBad V N n < n then .tuple #[.int .i64 (firstBad V N n : Nat), .int .i64 23] else if n = 0 then .tuple #[.int .i64 0, .int .i64 23] else .tuple #[.int .i64 0, .int .i64 0]) ∧ Below w.heap.size w w' := by
  obtain ⟨K, hK⟩ : ∃ K, K = firstBad V N n := ⟨_, rfl⟩
  have hKn : K ≤ n := by rw [hK]; exact firstBad_le V N n
  rw [← hK]
  have hle := hp.le
  have hcap := hp.cap63
  have HP := Lib.hid hp
  have HK := Lib.hid hK
  clear hp hK
  go_enter Try.func7, Try.ntmps7
  go_wp2_with fail
  go_loopw [11] (fun i wr => ∃ k : Nat, k ≤ K ∧ i = .int .i64 (k : Int) ∧ Below w.heap.size w wr) (fun i _ => n - (intOf i).toNat)
  case atStart => exact ⟨0, by omega, rfl, Below.refl _ _⟩
  case round =>
    obtain ⟨k, hk, rfl, hb⟩ := hrel
    by_cases hlt : k < n
    · have hpw := HP.out.below hb (Nat.le_refl _)
      obtain ⟨ab, ao, rfl, habl, hcs⟩ := hpw.cells (by omega)
      obtain ⟨kv, kn⟩ := hcs k hlt
      obtain ⟨hv0, hv1⟩ := rng_i64 (hpw.wf k hlt).1
      obtain ⟨hn0, hn1⟩ := rng_i32 (hpw.wf k hlt).2
      obtain ⟨v, hv⟩ : ∃ v, v = V k := ⟨_, rfl⟩
      obtain ⟨c, hc⟩ : ∃ c, c = N k := ⟨_, rfl⟩
      rw [← hv] at kv hv0 hv1
      rw [← hc] at kn hn0 hn1
      have hbad : badAt V N n k = (wrongC v c n || (decide (k + 1 = n) && !endsC v)) := by rw [badAt, ← hv, ← hc]
      obtain ⟨x, hx⟩ : ∃ x, wrongC v c n = x := ⟨_, rfl⟩
      obtain ⟨y, hy⟩ : ∃ y, endsC v = y := ⟨_, rfl⟩
      have hw := fun W => wrong_any v c (n : Int) hn0 hn1 W
      have he := fun W => ends_any v W
      rw [hx] at hw
      rw [hy] at he
      rw [hx, hy] at hbad
      have HW := Lib.hid hw
      have HE := Lib.hid he
      have HBAD := Lib.hid hbad
      have HB := Lib.hid hb
      have hK1 : badAt V N n k = true → k = K := fun h => by
        rcases Nat.lt_or_ge k K with h1 | h1
        · have := firstBad_before V N n k (by rw [← HK.out]; exact h1)
          rw [h] at this; cases this
        · omega
      have hK2 : badAt V N n k = false → k + 1 ≤ K := fun h => by
        rcases Nat.lt_or_ge k K with h1 | h1
        · omega
        · have e : K = k := by omega
          have := firstBad_at V N n (by rw [← HK.out]; omega)
          rw [← HK.out, e, h] at this; cases this
      have HK1 := Lib.hid hK1
      have HK2 := Lib.hid hK2
      clear hpw hcs hv hc hbad hb hx hy hw he hK1 hK2
      go_wp2_with fail
      refine (HW.out _).mono ?_; rintro e w2 ⟨rfl, b2⟩
      have d0 : w2.cell? ⟨wr.heap.size, 0, none⟩ = some (.int .i64 v) := cell_below b2 (Nat.le_refl _) (by rw [World.cell?_alloc_new]; rfl)
      have HB2 := Lib.hid (HB.out.trans ((((Below.refl wr.heap.size wr).alloc (Nat.le_refl _) (.cells #[.int .i64 v, .int .i32 c] 36)).trans (b2.mono (by simp))).mono HB.out.size))
      clear b2
      cases x with
      | true =>
        have hk1 := HK1.out (by rw [HBAD.out]; rfl)
        subst hk1
        go_wp2_with fail
        go_ret2
        exact ⟨by simp, HB2.out⟩
      | false =>
        by_cases hlast : k + 1 = n
        · have q : ((k : Int) == (n : Int) - 1) = true := by simp; omega
          cases y with
          | true =>
            have hk2 := HK2.out (by rw [HBAD.out, hlast]; simp)
            clear hlast
            go_wp2_with fail
            refine (HE.out _).mono ?_; rintro e w3 ⟨rfl, rfl⟩
            go_wp2_with fail
            go_roundw
            case rel => exact ⟨k + 1, by omega, by go_num, HB2.out⟩
            case measure => simp [intOf]; omega
          | false =>
            have hk1 := HK1.out (by rw [HBAD.out, hlast]; simp)
            subst hk1
            clear hlast
            go_wp2_with fail
            refine (HE.out _).mono ?_; rintro e w3 ⟨rfl, rfl⟩
            go_wp2_with fail
            go_ret2
            exact ⟨by simp, HB2.out⟩
        · have q : ((k : Int) == (n : Int) - 1) = false := by simp; omega
          have hk2 := HK2.out (by rw [HBAD.out, decide_eq_false hlast]; simp)
          clear hlast
          go_wp2_with fail
          go_roundw
          case rel => exact ⟨k + 1, by omega, by go_num, HB2.out⟩
          case measure => simp [intOf]; omega
    · obtain rfl : k = n := by omega
      obtain rfl : K = k := by omega
      have HB := Lib.hid hb
      clear hb
      by_cases h0 : K = 0
      · subst h0
        go_wp2_with fail
        go_ret2
        exact ⟨by simp, HB.out⟩
      · have q : ((K : Int) == 0) = false := by simp; omega
        go_wp2_with fail
        go_ret2
        exact ⟨by simp, HB.out⟩
end Go.Proofs.Ytlnldkciiphidaa
