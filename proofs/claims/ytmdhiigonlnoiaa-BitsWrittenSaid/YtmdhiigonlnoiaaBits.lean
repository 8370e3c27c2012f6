/- Contracts of package bits. -/
import Derived.Test.YtmdhiigonlnoiaaChecked
import Derived.Test.YtmdhiigonlnoiaaLib
import Derived.Test.YtmdhiigonlnoiaaMem3
import Derived.Test.YtmdhiigonlnoiaaBitsLib
import Derived.Deep.DeepCutAuto
import Derived.RegionTactic
import Derived.ChangeAlike
import Derived.BigRegion
import Derived.Deep.QuietTactic
import Derived.BigQuiet
namespace Go.Proofs.Ytmdhiigonlnoiaa
open Go.RowKit Go.Waf
set_option maxRecDepth 100000
set_option linter.unusedVariables false
attribute [local go_sem] mask1_u64 mask1_u8

theorem elemB : Elem Try.prog 33 5 1 1 := Elem.mk' (z := .int .u8 0) Try.underlying33 (by kernel_rfl) rfl (by decide)
theorem elemBool : Elem Try.prog 26 4 1 1 := Elem.mk' (z := .bool false) Try.underlying26 (by kernel_rfl) rfl (by decide)
theorem ret_bool {a b : Bool} (h : a = b) : Ending.returned (.bool a) = .returned (.bool b) := by rw [h]

/-- A writer at block g, its bytes v, its bits bs. -/
structure WrAt (w : World) (B g : Nat) (v : Value) (bs : List Bool) : Prop where
  blk : w.heap[g]? = some (.cells #[v, .int .i64 (bs.length : Nat)] 96 (0, 0))
  row : w.ownsRow B 5 1 v ((bs.length + 7) / 8) (byt (pack bs))
  base : B ≤ g
  ne : v.ownBlock ≠ some g

/-- The same, with room for the next bit: the row at block h. -/
structure WrAt' (w : World) (B g h cap : Nat) (cs : List Bool) : Prop where
  blk : w.heap[g]? = some (.cells #[.slice (some ⟨h, 0, none⟩) (cs.length / 8 + 1) cap, .int .i64 (cs.length : Nat)] 96 (0, 0))
  row : w.ownsRow B 5 1 (.slice (some ⟨h, 0, none⟩) (cs.length / 8 + 1) cap) (cs.length / 8 + 1) (byt (packTo cs (cs.length / 8 + 1)))
  base : B ≤ g
  ne : h ≠ g
theorem put_no (w : World) (p : Value) (x : Int) (n : Int) (h : n < 0 ∨ 64 < n) : Calls Try.prog 17 #[p, .int .u64 x, .int .i64 n] w fun e w' => e = .returned (.bool false) ∧ w = w' := by
  rcases h with h | h
  all_goals
    go_enter Try.func17, Try.ntmps17
    go_wp2_with fail
    go_ret
    exact ⟨rfl, rfl⟩

theorem put_value (x j N : Nat) (cs : List Bool) (old : Int) (hN : N = cs.length) (ho : old = byteAt cs (N / 8)) :
    bits .or .u8 old ((x : Int) / 2 ^ j % 2 * 2 ^ (7 - N % 8) % 256) = byteAt cs (cs.length / 8) + b2i (x / 2 ^ j % 2 == 1) * 2 ^ (7 - cs.length % 8) := by
  subst ho; subst hN
  have hb := byteAt_le cs (cs.length / 8)
  have hs := (byteAt_snoc cs (x / 2 ^ j % 2 == 1)).2
  have e : ((x : Int) / 2 ^ j % 2) = b2i (x / 2 ^ j % 2 == 1) := by
    have h1 : ((x : Int) / 2 ^ j % 2) = ((x / 2 ^ j % 2 : Nat) : Int) := by push_cast; rfl
    rw [h1]
    rcases Nat.mod_two_eq_zero_or_one (x / 2 ^ j) with h | h <;> rw [h] <;> rfl
  rw [e]
  have hk : 7 - cs.length % 8 ≤ 7 := by omega
  have hp : (2 : Int) ^ (7 - cs.length % 8) ≤ 128 := by
    have h : (2 : Nat) ^ (7 - cs.length % 8) ≤ 2 ^ 7 := Nat.pow_le_pow_right (by decide) hk
    have e : ((2 : Int) ^ (7 - cs.length % 8)) = ((2 ^ (7 - cs.length % 8) : Nat) : Int) := by simp
    rw [e]; omega
  have hp0 : (0 : Int) < 2 ^ (7 - cs.length % 8) := Int.pow_pos (by decide)
  have hm : b2i (x / 2 ^ j % 2 == 1) * 2 ^ (7 - cs.length % 8) % 256 = b2i (x / 2 ^ j % 2 == 1) * 2 ^ (7 - cs.length % 8) := by
    cases (x / 2 ^ j % 2 == 1) <;> simp [b2i]
    omega
  rw [hm]
  exact or_free _ _ _ hk hb.1 hb.2 (by rw [show 7 - cs.length % 8 + 1 = 8 - cs.length % 8 by omega]; exact hs)
theorem put_close (wc : World) (B g h cap N : Nat) (cs : List Bool) (b : Bool) (u : Int) (hN : N = cs.length)
    (hblk : wc.heap[g]? = some (.cells #[.slice (some ⟨h, 0, none⟩) (N / 8 + 1) cap, .int .i64 (N : Nat)] 96 (0, 0)))
    (hrow : wc.ownsRow B 5 1 (.slice (some ⟨h, 0, none⟩) (N / 8 + 1) cap) (N / 8 + 1) (byt (packTo cs (N / 8 + 1)))) (hB : B ≤ g) (hne : h ≠ g)
    (hu : u = byteAt cs (cs.length / 8) + b2i b * 2 ^ (7 - cs.length % 8)) :
    WrAt ((wc.setCell ⟨h, N / 8, none⟩ (.int .u8 u)).setCell ⟨g, 1, none⟩ (.int .i64 ((N : Int) + 1))).drew B g (.slice (some ⟨h, 0, none⟩) (N / 8 + 1) cap) (cs ++ [b]) := by
  subst hN
  have hst := (hrow.stored (cs.length / 8) (.int .u8 u)).1
  have hbk := blk_set_other hblk ⟨h, cs.length / 8, none⟩ (.int .u8 u) (fun e => hne e.symm)
  have hst2 := owns_set_other hst ⟨g, 1, none⟩ (.int .i64 ((cs.length : Int) + 1)) (by simpa [Value.ownBlock] using hne)
  have hl : (cs ++ [b]).length = cs.length + 1 := by simp
  refine ⟨?_, ?_, hB, by simpa [Value.ownBlock] using hne⟩
  · show ((wc.setCell _ _).setCell _ _).heap[g]? = _
    rw [heap_setCell_same _ g 1 _ _ _ hbk, hl]
    rfl
  · rw [hl, pack, hl, show (cs.length + 1 + 7) / 8 = cs.length / 8 + 1 by omega, ← packTo_set, ← hu]
    have e : (byt (packTo cs (cs.length / 8 + 1))).set (cs.length / 8) (.int .u8 u) = byt ((packTo cs (cs.length / 8 + 1)).set (cs.length / 8) u) := by simp [byt, List.map_set]
    rw [← e]
    exact hst2
def PutPost (w : World) (B g : Nat) (v : Value) (bs : List Bool) (e : Ending) (w' : World) : Prop :=
  ∃ v', e = .returned (.bool true) ∧ WrAt w' B g v' bs ∧ (∀ k, v'.ownBlock = some k → v.ownBlock = some k ∨ w.heap.size ≤ k) ∧ Fr (fun k => k = g ∨ v.ownBlock = some k) w w'

set_option maxHeartbeats 1600000 in
theorem put_yes (w : World) (B g : Nat) (v : Value) (bs : List Bool) (hwr : WrAt w B g v bs) (x n : Nat) (hn : n ≤ 64) (hl : bs.length ≤ 1000000) (hx : x < 18446744073709551616) :
    Calls Try.prog 17 #[.pointer (some ⟨g, 0, none⟩), .int .u64 x, .int .i64 n] w (PutPost w B g v (bs ++ bitsN x n)) := by
  have hgs : g < w.heap.size := (Array.getElem?_eq_some_iff.1 hwr.blk).1
  go_enter Try.func17, Try.ntmps17
  go_wp2_with fail
  go_loopw [7] (fun i wr => ∃ k v', k ≤ n ∧ i = .int .i64 ((n : Int) - 1 - (k : Nat)) ∧ WrAt wr B g v' (bs ++ (bitsN x n).take k) ∧ (∀ k, v'.ownBlock = some k → v.ownBlock = some k ∨ w.heap.size ≤ k) ∧ Fr (fun k => k = g ∨ v.ownBlock = some k) w wr) (fun i _ => (intOf i + 1).toNat)
  case atStart => exact ⟨0, v, by omega, by simp, by simpa using hwr, fun k hk => .inl hk, Fr.refl _ _⟩
  case round =>
    obtain ⟨k, v', hk, rfl, hw', hfresh, hfr⟩ := hrel
    by_cases hlt : k < n
    · obtain ⟨cs, hcs⟩ : ∃ cs, cs = bs ++ (bitsN x n).take k := ⟨_, rfl⟩
      have hcl : cs.length = bs.length + k := by rw [hcs]; simp [bitsN_length]; omega
      have hstep : bs ++ (bitsN x n).take (k + 1) = cs ++ [x / 2 ^ (n - 1 - k) % 2 == 1] := by rw [hcs, take_bitsN x n k hlt, List.append_assoc]
      rw [← hcs] at hw'
      obtain ⟨hblk, hrow, hbase, hne⟩ := hw'
      have hsz := hfr.size
      have c0 : wr.cell? ⟨g, 0, none⟩ = some v' := by rw [cell_of_row wr g 0 _ _ _ hblk]; rfl
      have c1 : wr.cell? ⟨g, 1, none⟩ = some (.int .i64 (cs.length : Nat)) := by rw [cell_of_row wr g 1 _ _ _ hblk]; rfl
      have f0 := frozen_of_row wr g 0 _ _ hblk
      have f1 := frozen_of_row wr g 1 _ _ hblk
      obtain ⟨N, hN⟩ : ∃ N, N = cs.length := ⟨_, rfl⟩
      rw [← hN] at c1 hblk hrow hcl
      have HF := Lib.hid hfresh
      have HFR := Lib.hid hfr
      have HB := Lib.hid hblk
      have HR := Lib.hid hrow
      have HS := Lib.hid hstep
      have HN := Lib.hid hN
      have HC := Lib.hid hcs
      have HNE := Lib.hid hne
      have hNl : N ≤ 1000064 := by omega
      have HCL := Lib.hid hcl
      clear hfresh hfr hblk hrow hstep hN hcs hne hcl
      go_upto_if 25 with fail
      go_cut [] (fun w2 => ∃ h cap, WrAt' w2 B g h cap cs ∧ (∀ k, h = k → v.ownBlock = some k ∨ w.heap.size ≤ k) ∧ Fr (fun k => k = g ∨ v.ownBlock = some k) w w2)
      case first =>
        by_cases h8 : N % 8 = 0
        · have q8 : ((N : Int) % 8 == 0) = true := beq_iff_eq.2 (by omega)
          have hrow0 := HR.out.alloc (.cells #[.int .u8 0] 5)
          go_wp2_with (at_builtin; refine app_own2 _ elemB rfl _ _ rfl B v' ((N + 7) / 8) (byt (pack cs)) rfl hrow0 _ 1 (byt [0]) rfl (rd_new _ _ _ _ _ (by simp) (by simp [maxLen])) (one_byt _) (by simp only [maxLen]; omega) (by omega) (by simp; omega) ?_; intro v2 w1 hown1 hg1 hfr1; obtain ⟨h, cap, rfl, hbh, hhs, hcap1, hcap2⟩ := owns_some hown1 (by omega); have hb1 := blk_grown (blk_alloc HB.out _) hg1 HNE.out; have c0' : w1.cell? ⟨g, 0, none⟩ = some v' := by { rw [cell_of_row w1 g 0 _ _ _ hb1]; rfl }; have f0' := frozen_of_row w1 g 0 _ _ hb1)
          go_meet
          case rel =>
            have e8 : (N + 7) / 8 + 1 = N / 8 + 1 := by omega
            have hhg : h ≠ g := by
              rcases hfr1 h rfl with h1 | h1
              · intro e; exact HNE.out (by rw [h1, e])
              · simp at h1; omega
            have hpk : pack cs ++ [0] = packTo cs (N / 8 + 1) := by
              rw [packTo_succ, byteAt_past cs (N / 8) (by rw [← HN.out]; omega), pack, ← HN.out, show (N + 7) / 8 = N / 8 by omega]
            refine ⟨h, cap, ⟨?_, ?_, hbase, hhg⟩, ?_, ?_⟩
            · rw [← HN.out, ← e8]
              rw [heap_setCell_same w1 g 0 _ _ _ hb1]; rfl
            · rw [← HN.out, ← hpk, ← e8, byt_append]
              exact owns_set_other hown1 _ _ (by simpa [Value.ownBlock] using hhg)
            · intro k hk
              subst hk
              rcases hfr1 h rfl with h1 | h1
              · exact HF.out h h1
              · simp at h1; exact .inr (by omega)
            · refine ((HFR.out.alloc _).trans (Fr.of_grown (F := fun k => v'.ownBlock = some k) hg1 (fun k hk => hk)) (fun i hi hf => ?_)).setCell (.inr (.inl rfl)) _
              rcases HF.out i hf with h1 | h1
              · exact .inr h1
              · omega
        · have q8 : ((N : Int) % 8 == 0) = false := beq_eq_false_iff_ne.2 (by omega)
          obtain ⟨h, cap, rfl, hbh, hhs, hcap1, hcap2⟩ := owns_some HR.out (by omega)
          go_wp2_with fail
          go_meet
          case rel =>
            have e8 : (N + 7) / 8 = N / 8 + 1 := by omega
            refine ⟨h, cap, ⟨?_, ?_, hbase, ?_⟩, ?_, HFR.out⟩
            · rw [← HN.out, ← e8]; exact HB.out
            · rw [← HN.out, ← e8]
              have := HR.out
              rwa [pack, ← HN.out] at this
            · intro e; exact HNE.out (by simp [Value.ownBlock, e])
            · intro k hk; subst hk; exact HF.out h rfl
      case rest =>
        obtain ⟨h, cap, ⟨hblk2, hrow2, _, hhg⟩, hfr2, hF2⟩ := hcut
        have hNN := HN.out
        rw [← hNN] at hblk2 hrow2
        have d0 : wc.cell? ⟨g, 0, none⟩ = some (.slice (some ⟨h, 0, none⟩) (N / 8 + 1) cap) := by rw [cell_of_row wc g 0 _ _ _ hblk2]; rfl
        have d1 : wc.cell? ⟨g, 1, none⟩ = some (.int .i64 (N : Nat)) := by rw [cell_of_row wc g 1 _ _ _ hblk2]; rfl
        have e0 := frozen_of_row wc g 0 _ _ hblk2
        have e1 := frozen_of_row wc g 1 _ _ hblk2
        obtain ⟨_, _, hv', hbh, hhs, hcap1, hcap2⟩ := owns_some hrow2 (by omega)
        cases hv'
        obtain ⟨old, hold⟩ : ∃ old, old = byteAt cs (N / 8) := ⟨_, rfl⟩
        have dh : wc.cell? ⟨h, N / 8, none⟩ = some (.int .u8 old) := by
          rw [hrow2.cellAt (N / 8) (by omega), byt_get _ _ (by rw [packTo_length]; omega), packTo_getD _ _ _ (by omega), hold]
        have eh := hrow2.frozenAt (N / 8)
        have hob := byteAt_le cs (N / 8)
        rw [← hold] at hob
        have HO := Lib.hid hold
        have HB2 := Lib.hid hblk2
        have HR2 := Lib.hid hrow2
        have HH := Lib.hid hhg
        have HFR2 := Lib.hid hfr2
        have HF2 := Lib.hid hF2
        have hgh : ¬ g = h := fun e => hhg e.symm
        clear hold hblk2 hrow2 hfr2 hF2 hNN c0 c1 f0 f1
        go_wp2_with fail
        go_region
        go_wp2_with fail
        go_roundw
        case rel =>
          refine ⟨k + 1, .slice (some ⟨h, 0, none⟩) (N / 8 + 1) cap, by omega, by congr 1; omega, ?_, ?_, ?_⟩
          · rw [HS.out]
            exact put_close wc B g h cap N cs _ _ HN.out HB2.out HR2.out hbase HH.out (put_value x (n - 1 - k) N cs old HN.out HO.out)
          · intro k hk
            simp only [Value.ownBlock, Option.some.injEq] at hk
            exact HFR2.out k hk
          · refine ((HF2.out.setCell ?_ _).setCell (.inr (.inl rfl)) _).drew
            rcases HFR2.out h rfl with h1 | h1
            · exact .inr (.inr h1)
            · exact .inl h1
        case measure => simp [intOf]; omega
    · obtain rfl : k = n := by omega
      have hw2 : WrAt wr B g v' (bs ++ bitsN x k) := by rwa [List.take_of_length_le (by rw [bitsN_length]; omega)] at hw'
      have HW := Lib.hid hw2
      have HF := Lib.hid hfresh
      have HFR := Lib.hid hfr
      clear hw' hw2 hfresh hfr hwr
      go_wp2_with fail
      go_ret
      exact ⟨v', rfl, HW.out, HF.out, HFR.out⟩
end Go.Proofs.Ytmdhiigonlnoiaa
