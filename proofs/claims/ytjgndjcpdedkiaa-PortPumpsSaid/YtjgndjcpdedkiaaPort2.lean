/- Contracts of package port, the rest: Pick; known10. -/
import Derived.Test.YtjgndjcpdedkiaaPort
namespace Go.Proofs.Ytjgndjcpdedkiaa
open Go.RowKit Go.Waf Go.Conc
set_option maxRecDepth 100000
set_option linter.unusedVariables false

theorem Rd_at {w : World} {size n cap : Nat} {a : Option Addr} {cs : List Value} (h : Rd w size (.slice a n cap) n cs) (hn : 0 < n) : ∃ b off, a = some ⟨b, off, none⟩ ∧ ∀ j u, cs[j]? = some u → w.cell? ⟨b, off + j, none⟩ = some u := by
  obtain ⟨_, a', cap', he, _, _, _, h4⟩ := h
  cases he
  exact h4 hn

/-- A place of a list of ports: none, or a port with these bytes. -/
def SpotAt (w : World) (B C : Nat) (v : Value) (G : Option (Nat × Nat)) (q : List Int) : Prop :=
  match G with
  | none => v = .pointer none
  | some (g, h) => v = .pointer (some ⟨g, 0, none⟩) ∧ PortAt w B g h C q false

set_option maxHeartbeats 1600000 in
theorem pick_some (w : World) (B C b off n cap : Nat) (P : Nat → Value) (G : Nat → Option (Nat × Nat)) (Q : Nat → List Int) (hc : n ≤ cap ∧ cap ≤ 9223372036854775807)
    (hcell : ∀ j, j < n → w.cell? ⟨b, off + j, none⟩ = some (P j) ∧ SpotAt w B C (P j) (G j) (Q j)) (j : Nat) (hj : j < n) (hbef : ∀ i, i < j → G i = none ∨ Q i = [])
    (g h : Nat) (hG : G j = some (g, h)) (c : Int) (q : List Int) (hQ : Q j = c :: q) :
    Calls Try.prog 17 #[.slice (some ⟨b, off, none⟩) n cap] w fun e w' => e = .returned (.tuple #[.int .i64 j, .int .u8 c, .bool true]) ∧ PortAt w' B g h C q false ∧ Fr (fun k => k = h) w w' := by
  obtain ⟨hc0, hc1⟩ := hc
  have HC := Lib.hid hcell
  have HB := Lib.hid hbef
  have HG := Lib.hid hG
  have HQ := Lib.hid hQ
  clear hcell hbef hG hQ
  go_enter Try.func17, Try.ntmps17
  go_wp2_with fail
  go_loop [11] (fun i => ∃ k : Nat, k ≤ j ∧ i = .int .i64 (k : Int)) (fun i => n - (intOf i).toNat)
  case atStart => exact ⟨0, by omega, rfl⟩
  case round =>
    obtain ⟨k, hk, rfl⟩ := hrel
    have hkn : k < n := by omega
    obtain ⟨cin, sp⟩ := HC.out k hkn
    obtain ⟨v, hv⟩ : ∃ v, v = P k := ⟨_, rfl⟩
    rw [← hv] at cin sp
    by_cases he : k = j
    · subst he
      rw [HG.out, HQ.out] at sp
      obtain ⟨rfl, hp⟩ := sp
      have HP := Lib.hid (ppoll_some w B g h C c q false hp)
      clear hp hv
      go_wp2_with fail
      refine HP.out.mono ?_; rintro e w1 ⟨rfl, hp1, hf1⟩
      have HP1 := Lib.hid hp1
      have HF1 := Lib.hid hf1
      clear hp1 hf1
      go_wp2_with fail
      go_ret3
      exact ⟨rfl, HP1.out, HF1.out⟩
    · cases hGk : G k with
      | none =>
        rw [hGk] at sp
        obtain rfl : v = .pointer none := sp
        clear hGk hv
        go_wp2_with fail
        go_round
        case rel => exact ⟨k + 1, by omega, by go_num⟩
        case measure => simp [intOf]; omega
      | some p =>
        obtain ⟨g', h'⟩ := p
        have hq0 : Q k = [] := by rcases HB.out k (by omega) with h1 | h1; rw [hGk] at h1; cases h1; exact h1
        rw [hGk, hq0] at sp
        obtain ⟨rfl, hp⟩ := sp
        have HP := Lib.hid (ppoll_none w B g' h' C false hp)
        clear hGk hv hp hq0
        go_wp2_with fail
        refine HP.out.mono ?_; rintro e w1 ⟨rfl, rfl⟩
        go_wp2_with fail
        go_round
        case rel => exact ⟨k + 1, by omega, by go_num⟩
        case measure => simp [intOf]; omega

set_option maxHeartbeats 1600000 in
theorem pick_none (w : World) (B C b off n cap : Nat) (P : Nat → Value) (G : Nat → Option (Nat × Nat)) (Q : Nat → List Int) (hc : n ≤ cap ∧ cap ≤ 9223372036854775807)
    (hcell : ∀ j, j < n → w.cell? ⟨b, off + j, none⟩ = some (P j) ∧ SpotAt w B C (P j) (G j) (Q j)) (hbef : ∀ i, i < n → G i = none ∨ Q i = []) :
    Calls Try.prog 17 #[.slice (some ⟨b, off, none⟩) n cap] w fun e w' => e = .returned (.tuple #[.int .i64 0, .int .u8 0, .bool false]) ∧ w = w' := by
  obtain ⟨hc0, hc1⟩ := hc
  have HC := Lib.hid hcell
  have HB := Lib.hid hbef
  clear hcell hbef
  go_enter Try.func17, Try.ntmps17
  go_wp2_with fail
  go_loop [11] (fun i => ∃ k : Nat, k ≤ n ∧ i = .int .i64 (k : Int)) (fun i => n - (intOf i).toNat)
  case atStart => exact ⟨0, by omega, rfl⟩
  case round =>
    obtain ⟨k, hk, rfl⟩ := hrel
    by_cases hkn : k < n
    · obtain ⟨cin, sp⟩ := HC.out k hkn
      obtain ⟨v, hv⟩ : ∃ v, v = P k := ⟨_, rfl⟩
      rw [← hv] at cin sp
      cases hGk : G k with
      | none =>
        rw [hGk] at sp
        obtain rfl : v = .pointer none := sp
        clear hGk hv
        go_wp2_with fail
        go_round
        case rel => exact ⟨k + 1, by omega, by go_num⟩
        case measure => simp [intOf]; omega
      | some p =>
        obtain ⟨g', h'⟩ := p
        have hq0 : Q k = [] := by rcases HB.out k (by omega) with h1 | h1; rw [hGk] at h1; cases h1; exact h1
        rw [hGk, hq0] at sp
        obtain ⟨rfl, hp⟩ := sp
        have HP := Lib.hid (ppoll_none w B g' h' C false hp)
        clear hGk hv hp hq0
        go_wp2_with fail
        refine HP.out.mono ?_; rintro e w1 ⟨rfl, rfl⟩
        go_wp2_with fail
        go_round
        case rel => exact ⟨k + 1, by omega, by go_num⟩
        case measure => simp [intOf]; omega
    · obtain rfl : k = n := by omega
      go_wp2_with fail
      go_ret3
      exact ⟨rfl, rfl⟩

set_option maxHeartbeats 1600000 in
theorem known10 (w : World) : Calls Try.prog 15 #[] w fun e w' => e = .returned (.bool true) ∧ Below w.heap.size w w' := by
  go_enter Try.func15, Try.ntmps15
  go_wp2_with fail
  refine (pnew_any _ 1 1 (.inr (.inl ⟨rfl, by omega, by omega⟩))).mono ?_; rintro e w1 ⟨g, h, rfl, p1, b1⟩
  have P1 := Lib.hid p1
  have B1 := Lib.hid b1
  clear p1 b1
  go_wp2_with fail
  refine (poffer_room _ _ _ _ _ _ P1.out 97 (by decide)).mono ?_; rintro e w2 ⟨rfl, p2, f2⟩
  have P2 := Lib.hid p2
  have B2 := Lib.hid (B1.out.trans (f2.below B1.out.size fun i hi hk => by have := P1.out.base; omega))
  clear p2 f2
  go_wp2_with fail
  refine (poffer_full _ _ _ _ _ _ P2.out 98 (by decide)).mono ?_; rintro e w3 ⟨rfl, rfl⟩
  have hn : Below w2.heap.size w2 (w2.alloc (.cells #[.pointer none, .pointer (some ⟨g, 0, none⟩)] 26)) := (Below.refl _ _).alloc (Nat.le_refl _) _
  have P3 := Lib.hid (P2.out.keep hn (Nat.le_refl _))
  have B3 := Lib.hid (B2.out.trans (hn.mono B2.out.size))
  have hcell : ∀ j, j < 2 → (w2.alloc (.cells #[.pointer none, .pointer (some ⟨g, 0, none⟩)] 26)).cell? ⟨w2.heap.size, 0 + j, none⟩ = some ((fun j => if j = 0 then Value.pointer none else .pointer (some ⟨g, 0, none⟩)) j) ∧ SpotAt (w2.alloc (.cells #[.pointer none, .pointer (some ⟨g, 0, none⟩)] 26)) w.heap.size 1 ((fun j => if j = 0 then Value.pointer none else .pointer (some ⟨g, 0, none⟩)) j) ((fun j => if j = 0 then none else some (g, h)) j) ((fun _ => [97]) j) := by
    intro j hj
    rcases (by omega : j = 0 ∨ j = 1) with rfl | rfl
    · exact ⟨by rw [World.cell?_alloc_new]; rfl, rfl⟩
    · exact ⟨by rw [World.cell?_alloc_new]; rfl, rfl, P3.out⟩
  have HPK := Lib.hid (pick_some _ w.heap.size 1 w2.heap.size 0 2 2 _ _ _ (by omega) hcell 1 (by omega) (fun i hi => .inl (by simp [show i = 0 by omega])) g h rfl 97 [] rfl)
  clear hcell hn
  go_wp2_with fail
  refine HPK.out.mono ?_; rintro e w4 ⟨rfl, p4, f4⟩
  have P4 := Lib.hid p4
  have B4 := Lib.hid (B3.out.trans (f4.below B3.out.size fun i hi hk => by have := P1.out.base; omega))
  clear p4 f4
  go_wp2_with fail
  refine (ppoll_none _ _ _ _ _ _ P4.out).mono ?_; rintro e w5 ⟨rfl, rfl⟩
  go_wp2_with fail
  go_ret
  exact ⟨rfl, B4.out⟩
end Go.Proofs.Ytjgndjcpdedkiaa
