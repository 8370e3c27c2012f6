/- The walk of BitsBack. -/
import Derived.Test.YtmdhiigonlnoiaaBitsBytes
import Derived.Test.YtmdhiigonlnoiaaPairs
import Derived.Deep.RegionWith
import Derived.Deep.RegionHeld3
namespace Go.Proofs.Ytmdhiigonlnoiaa
open Go.RowKit Go.Waf
set_option maxRecDepth 100000
set_option linter.unusedVariables false
attribute [local go_sem] mask1_u64 mask1_u8

def kOf (n : Int) : Nat := (n.tmod 65).natAbs
theorem kOf_le (n : Int) : kOf n ≤ 64 := by unfold kOf; rw [Int.natAbs_tmod]; have := Nat.mod_lt n.natAbs (show 0 < (65 : Int).natAbs by decide); have e : (65 : Int).natAbs = 65 := rfl; rw [e] at *; omega
/-- The bits of the first k. -/
def putBits (V N : Nat → Int) (k : Nat) : List Bool := (List.range k).flatMap fun j => bitsN (V j).toNat (kOf (N j))
theorem putBits_succ (V N : Nat → Int) (k : Nat) : putBits V N (k + 1) = putBits V N k ++ bitsN (V k).toNat (kOf (N k)) := by simp [putBits, List.range_succ]
theorem putBits_len (V N : Nat → Int) (k : Nat) : (putBits V N k).length ≤ 64 * k := by
  induction k with
  | zero => simp [putBits]
  | succ k ih => rw [putBits_succ, List.length_append, bitsN_length]; have := kOf_le (N k); omega
def kInts (N : Nat → Int) (k : Nat) : List Value := (List.range k).map fun j => Value.int .i64 (kOf (N j))
theorem elemI : Elem Try.prog 37 3 1 8 := Elem.mk' (z := .int .i64 0) Try.underlying37 (by kernel_rfl) rfl (by decide)

theorem putBits_split (V N : Nat → Int) (j n : Nat) (h : j < n) : ∃ R, putBits V N n = putBits V N j ++ (bitsN (V j).toNat (kOf (N j)) ++ R) := by
  induction n with
  | zero => omega
  | succ n ih =>
    rw [putBits_succ]
    by_cases hj : j < n
    · obtain ⟨R, hR⟩ := ih hj
      exact ⟨R ++ bitsN (V n).toNat (kOf (N n)), by rw [hR]; simp⟩
    · obtain rfl : j = n := by omega
      exact ⟨[], by simp⟩
theorem numAt_put (V N : Nat → Int) (j n : Nat) (h : j < n) : (putBits V N (j + 1)).length ≤ (putBits V N n).length ∧ numAt (pack (putBits V N n)) (putBits V N j).length (kOf (N j)) = number (bitsN (V j).toNat (kOf (N j))) := by
  obtain ⟨R, hR⟩ := putBits_split V N j n h
  have hl : (putBits V N j).length + kOf (N j) ≤ (putBits V N n).length := by rw [hR]; simp [bitsN_length]
  refine ⟨by rw [putBits_succ, List.length_append, bitsN_length]; exact hl, ?_⟩
  rw [numAt_pack _ _ _ hl, hR, List.drop_append_of_le_length (Nat.le_refl _), List.drop_length, List.nil_append, List.take_append_of_le_length (by rw [bitsN_length]; omega), List.take_of_length_le (by rw [bitsN_length]; omega)]

set_option maxHeartbeats 1600000 in
theorem bitsBack_walk (a0 : Option Addr) (n0 cap0 : Nat) (V N : Nat → Int) (w : World) (hp : PairsAt w .u64 .i64 a0 n0 cap0 V N) :
    Calls Try.prog 5 #[.slice a0 n0 cap0] w fun e w' => e = .returned (.bool true) ∧ Below w.heap.size w w' := by
  have hc0 := hp.le
  have hc1 := hp.cap63
  by_cases hbig : 40 < n0
  · go_enter Try.func5, Try.ntmps5
    go_wp2_with fail
    refine (known1 _).mono ?_; rintro e w1 ⟨rfl, hb1⟩
    go_wp2_with fail
    go_ret
    exact ⟨rfl, hb1⟩
  have HP := Lib.hid hp
  clear hp
  go_enter Try.func5, Try.ntmps5
  go_wp2_with fail
  refine (known1 _).mono ?_; rintro e w1 ⟨rfl, b1⟩
  go_wp2_with fail
  refine (newW _).mono ?_; rintro e w2 ⟨g, rfl, W2, b2⟩
  have hs1 := b1.size
  have hs2 := b2.size
  have B2 := Lib.hid (b1.trans (b2.mono b1.size))
  have HW2 := Lib.hid W2
  clear b1 b2 W2
  go_wp2_with fail
  go_loopw [4, 5] (fun nv i wr => ∃ k v, k ≤ n0 ∧ i = .int .i64 (k : Nat) ∧ WrAt wr w1.heap.size g v (putBits V N k) ∧ wr.ownsRow w1.heap.size 3 1 nv k (kInts N k) ∧ nv.ownBlock ≠ some g ∧ (∀ b, nv.ownBlock = some b → v.ownBlock ≠ some b) ∧ Below w.heap.size w wr ∧ w1.heap.size ≤ wr.heap.size) (fun _ i _ => n0 - (intOf i).toNat)
  case atStart => exact ⟨0, _, by omega, rfl, HW2.out, World.ownsRow_nil _ _ _ _, by simp [Value.ownBlock], fun b hb => by simp [Value.ownBlock] at hb, B2.out, hs2⟩
  case round =>
    obtain ⟨k, v, hk, rfl, hwr, hnv, hd1, hd2, hb, hsr⟩ := hrel
    by_cases hlt : k < n0
    · obtain ⟨lb, lo, rfl, _, _⟩ := HP.out.cells (by omega)
      have hlc : ∀ w', Below w.heap.size w w' → w'.cell? ⟨lb, lo + k * 2, none⟩ = some (.int .u64 (V k)) ∧ w'.cell? ⟨lb, lo + k * 2 + 1, none⟩ = some (.int .i64 (N k)) := fun w' hw' => by
        obtain ⟨lb', lo', he, _, hc⟩ := (HP.out.below hw' (Nat.le_refl _)).cells (by omega)
        cases he
        exact hc k hlt
      obtain ⟨lc0, lc1⟩ := hlc wr hb
      have hwf := HP.out.wf k hlt
      have hV := rng_u64 hwf.1
      have hN := rng_i64 hwf.2
      obtain ⟨X, hX⟩ := Int.eq_ofNat_of_zero_le hV.1
      rw [hX] at lc0 hV
      have hlc0 : ∀ w', Below w.heap.size w w' → w'.cell? ⟨lb, lo + k * 2, none⟩ = some (.int .u64 (X : Int)) := fun w' hw' => by rw [(hlc w' hw').1, hX]
      have HLC := Lib.hid hlc0
      obtain ⟨M, hM⟩ : ∃ M, M = (N k).tmod 65 := ⟨_, rfl⟩
      obtain ⟨Kk, hKk⟩ : ∃ Kk, Kk = kOf (N k) := ⟨_, rfl⟩
      have hKM : (M < 0 ∧ -M = (Kk : Int)) ∨ (0 ≤ M ∧ M = (Kk : Int)) := by rw [hKk, kOf, ← hM]; omega
      have hKl : Kk ≤ 64 := by rw [hKk]; exact kOf_le _
      have hpb : putBits V N (k + 1) = putBits V N k ++ bitsN X Kk := by rw [putBits_succ, hX, hKk]; rfl
      have hki : kInts N (k + 1) = kInts N k ++ [Value.int .i64 Kk] := by rw [hKk]; simp [kInts, List.range_succ]
      have hpl := putBits_len V N k
      have HW := Lib.hid hwr
      have HNV := Lib.hid hnv
      have HD1 := Lib.hid hd1
      have HD2 := Lib.hid hd2
      have HB := Lib.hid hb
      have HPB := Lib.hid hpb
      have HKI := Lib.hid hki
      obtain ⟨Nk, hNk⟩ : ∃ Nk, Nk = N k := ⟨_, rfl⟩
      rw [← hNk] at lc1 hM hN
      have HM := Lib.hid hM.symm
      clear hlc hlc0 hwr hnv hd1 hd2 hb hwf hpb hki hX hKk hNk hM
      go_upto_if 30 with fail
      simp only [HM.out]
      go_cut [6] (fun s wx => wx = wr ∧ s = .int .i64 (Kk : Int))
      case first =>
        rcases hKM with ⟨h1, h2⟩ | ⟨h1, h2⟩
        · go_wp2_with fail
          go_meet
          exact ⟨rfl, by first | rfl | rw [h2]⟩
        · go_wp2_with fail
          go_meet
          exact ⟨rfl, by first | rfl | rw [h2]⟩
      case rest =>
        obtain ⟨rfl, rfl⟩ := hcut
        go_wp2_with (at_builtin; refine app_own2 _ elemI rfl _ _ rfl w1.heap.size _ k (kInts N k) rfl (HNV.out.alloc _) _ 1 [.int .i64 (Kk : Int)] rfl (rd_new _ _ _ _ _ (by simp) (by simp [maxLen])) (by simp [Value.oneCell']) (by simp only [maxLen]; omega) (by omega) (by simp; omega) ?_; intro nv' w4 hnv4 hg4 hfr4; have b4 : Below w.heap.size w w4 := below_of_grown (HB.out.alloc HB.out.size _) (by simp; omega) (HNV.out.alloc _) hs1 rfl hg4; have lc4 := HLC.out w4 b4)
        have hgb := HW.out.blt
        have hs4 : wc.heap.size + 1 ≤ w4.heap.size := by simpa using hg4.size
        replace hfr4 : ∀ k, nv'.ownBlock = some k → u4.ownBlock = some k ∨ wc.heap.size + 1 ≤ k := fun k hk => (hfr4 k hk).elim .inl fun h => .inr (by simpa using h)
        have W4 := Lib.hid (HW.out.fr (((Fr.refl (fun i => u4.ownBlock = some i) _).alloc _).trans (Fr.of_grown hg4 (fun k hk => hk)) (fun i _ h => h)) HD1.out (fun b hb hF => HD2.out b hF hb))
        have D1 : nv'.ownBlock ≠ some g := fun e => by
          rcases hfr4 g e with h | h
          · exact HD1.out h
          · omega
        have D2 : ∀ b, nv'.ownBlock = some b → v.ownBlock ≠ some b := fun b hb e => by
          have := (HW.out.row.lt b e).2
          rcases hfr4 b hb with h | h
          · exact HD2.out b h e
          · omega
        have C := Lib.hid (put_call W4.out (by omega) X Kk hKl (by omega) (by omega))
        have HNV4 := Lib.hid hnv4
        have HB4 := Lib.hid b4
        have ND1 := Lib.hid D1
        have ND2 := Lib.hid D2
        clear hnv4 hg4 hfr4 b4 D1 D2
        go_wp2_with (go_at_call 17; refine C.out.mono ?_; rintro e w5 ⟨v5, rfl, W5, b5, fr5, F5⟩)
        go_roundw
        case rel =>
          refine ⟨k + 1, v5, by omega, by congr 1, by rw [HPB.out]; exact W5, by rw [HKI.out]; exact F5.owns HNV4.out (fun b hb hF => by rcases hF with rfl | hF; exact ND1.out hb; exact ND2.out b hb hF), ND1.out, fun b hb e => ?_, HB4.out.trans (b5.mono hs1), by have := b5.size; omega⟩
          rcases fr5 b e with h | h
          · exact ND2.out b hb h
          · have := (HNV4.out.lt b hb).2; omega
        case measure => simp [intOf]; omega
    · obtain rfl : k = n0 := by omega
      obtain ⟨wA, hwA⟩ : ∃ x, x = wr := ⟨_, rfl⟩
      subst hwA
      have hbl := putBits_len V N k
      obtain ⟨bs, hbs⟩ : ∃ bs, bs = putBits V N k := ⟨_, rfl⟩
      rw [← hbs] at hwr hbl
      have HBS := Lib.hid hbs
      have HW := Lib.hid hwr
      have HNV := Lib.hid hnv
      have HB := Lib.hid hb
      clear hbs hwr hnv hd1 hd2 hb
      go_wp2_with fail
      refine ownRet_mono (bytes_any _ _ _ _ _ HW.out (by omega)) _ ?_
      intro p w6 ho6 b6
      have R6 := Lib.hid (rd_of_owns ho6)
      have HB6 := Lib.hid b6
      have hpx : ∀ x ∈ pack bs, 0 ≤ x ∧ x ≤ 255 := packTo_bytes _ _
      have HPX := Lib.hid hpx
      have hs6 := b6.size
      clear ho6 b6 hpx
      go_wp2_with fail
      refine (newReader_any _ _ _ _ R6.out (by omega) HPX.out).mono ?_; rintro e w7 ⟨g7, v7, rfl, r7, b7⟩
      have hpl : (pack bs).length = (bs.length + 7) / 8 := packTo_length _ _
      have HPL := Lib.hid hpl
      have HR7 := Lib.hid r7
      have HB7 := Lib.hid (HB6.out.trans (b7.mono hs6))
      have HNR := Lib.hid (rd_of_owns HNV.out)
      obtain ⟨na, ncap, rfl, nc1, nc2, nc3⟩ := rd_shape HNR.out
      unfold maxLen at nc2
      have hs7 := b7.size
      have hs0 := HB.out.size
      clear r7 b7 hpl R6 HNV HW HB6
      go_wp2_with fail
      go_loopw [8] (fun i wq => ∃ j, j ≤ k ∧ i = .int .i64 (j : Nat) ∧ RdAt wq w6.heap.size g7 v7 (pack bs) (putBits V N j).length ∧ Below wA.heap.size wA wq ∧ w6.heap.size ≤ wq.heap.size) (fun i _ => k - (intOf i).toNat)
      case atStart => exact ⟨0, by omega, rfl, HR7.out, HB7.out, hs7⟩
      case round =>
        obtain ⟨j, hj, rfl, hr, hb, hsr2⟩ := hrel
        by_cases hlt2 : j < k
        · obtain ⟨lb, lo, rfl, _, _⟩ := HP.out.cells (by omega)
          obtain ⟨nb, no, rfl, _⟩ := Rd_at HNR.out (by omega)
          obtain ⟨Kk, hKk⟩ : ∃ Kk, Kk = kOf (N j) := ⟨_, rfl⟩
          have hKl : Kk ≤ 64 := by rw [hKk]; exact kOf_le _
          have hV := rng_u64 (HP.out.wf j hlt2).1
          obtain ⟨X, hX⟩ := Int.eq_ofNat_of_zero_le hV.1
          rw [hX] at hV
          have hlc : ∀ w', Below wA.heap.size wA w' → w'.cell? ⟨lb, lo + j * 2, none⟩ = some (.int .u64 (X : Int)) := fun w' hw' => by
            obtain ⟨lb', lo', he, _, hc⟩ := (HP.out.below (HB.out.trans (hw'.mono hs0)) (Nat.le_refl _)).cells (by omega)
            cases he
            rw [(hc j hlt2).1, hX]
          have hnc : ∀ w', Below wA.heap.size wA w' → w'.cell? ⟨nb, no + j, none⟩ = some (.int .i64 (Kk : Int)) := fun w' hw' => by
            obtain ⟨nb', no', he, hc⟩ := Rd_at (HNR.out.below hw' (Nat.le_refl _)) (by omega)
            cases he
            exact hc j (.int .i64 (Kk : Int)) (by rw [kInts, List.getElem?_map, List.getElem?_range hlt2, hKk]; rfl)
          have n0 := hnc _ hb
          obtain ⟨hpl1, hpn⟩ := numAt_put V N j k hlt2
          rw [hX, ← hKk, ← HBS.out] at hpn
          rw [putBits_succ, List.length_append, bitsN_length, ← hKk, ← HBS.out] at hpl1
          have G := Lib.hid (get_call hr hsr2 Kk hKl (by rw [HPL.out]; omega))
          rw [hpn] at G
          have HLC := Lib.hid hlc
          have HBB := Lib.hid hb
          have HNC := Lib.hid hnc
          have HK := Lib.hid hKk
          clear hr hb hlc hpn hX hKk hnc
          go_wp2_with (go_at_call 24; refine G.out.mono ?_; rintro e wx ⟨rfl, rx, bx⟩; have bwx := HBB.out.trans (bx.mono hs6); have lcx := HLC.out _ bwx; have ncx := HNC.out _ bwx)
          have HRX := Lib.hid rx
          have HBX := Lib.hid bwx
          have hsx := bx.size
          obtain ⟨Y, hY⟩ : ∃ Y, Y = number (bitsN X Kk) := ⟨_, rfl⟩
          rw [← hY]
          have HY := Lib.hid hY
          clear rx bwx bx hY G n0
          go_region_held3 (fun W => W.cell? ⟨lb, lo + j * 2, none⟩ = some (.int .u64 (X : Int)) ∧ W.cell? ⟨nb, no + j, none⟩ = some (.int .i64 (Kk : Int))) (first | exact ⟨lcx, ncx⟩ | exact ⟨lcy, ncy⟩) (first | (go_at_call 18; refine ownRet_mono (rbits_any _ X Kk (by omega) hKl) _ ?_; intro c wy hoc byy; have RC := rd_of_owns hoc; have bxy : Below wx.heap.size wx wy := (Below.drew (Below.refl wx.heap.size wx)).trans byy; have bay := HBX.out.trans (bxy.mono HBX.out.size); have lcy := HLC.out wy bay; have ncy := HNC.out wy bay) | (go_at_call 25; refine (rnumber_any _ _ _ _ RC hKl).mono ?_; rintro e wz ⟨rfl, rfl⟩; rw [← HY.out]))
          all_goals
            go_wp2_with fail
            go_roundw
            case rel =>
              refine ⟨j + 1, by omega, by congr 1, ?_, bay, by have := bxy.size; omega⟩
              rw [putBits_succ, List.length_append, bitsN_length, ← HK.out]
              exact HRX.out.keep bxy (Nat.le_refl _)
            case measure => simp [intOf]; omega
        · obtain rfl : j = k := by omega
          rw [← HBS.out] at hr
          have RS := Lib.hid (rest_any _ _ _ _ _ _ hr)
          rw [rest_pack] at RS
          have LS := Lib.hid (fun m => left_any _ _ _ _ _ _ (hr.drewN m))
          obtain ⟨T, hT⟩ : ∃ T, T = 8 * (pack bs).length - bs.length := ⟨_, rfl⟩
          have hT8 : T < 8 := by rw [hT, HPL.out]; omega
          rw [← hT] at LS
          have HBB := Lib.hid hb
          clear hr hb hT
          go_wp2_with (first | (go_at_call 27; refine RS.out.mono ?_; rintro e w7 ⟨rfl, m7, rfl⟩) | (go_at_call 26; refine (LS.out _).mono ?_; rintro e w8 ⟨rfl, m8, rfl⟩))
          go_ret
          exact ⟨ret_bool (by simp; omega), below_drewN (HB.out.trans (HBB.out.mono hs0)) _⟩

theorem bitsBack_law (a0 : Option Addr) (len0 cap0 : Nat) (V N : Nat → Int) (w : World) (w0 : PairsAt w .u64 .i64 a0 len0 cap0 V N) :
    Calls Try.prog 5 #[.slice a0 len0 cap0] w fun e w' => e = .returned (.bool true) ∧ Below w.heap.size w w' :=
  bitsBack_walk a0 len0 cap0 V N w w0
end Go.Proofs.Ytmdhiigonlnoiaa
