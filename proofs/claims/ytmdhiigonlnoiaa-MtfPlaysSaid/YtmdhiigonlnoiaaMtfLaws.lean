/- known19, and the walks of the two laws of lists. -/
import Derived.Test.YtmdhiigonlnoiaaMtf
import Derived.Test.YtmdhiigonlnoiaaBools
namespace Go.Proofs.Ytmdhiigonlnoiaa
open Go.RowKit Go.Waf
set_option maxRecDepth 100000
set_option linter.unusedVariables false

theorem place_any (x : Int) (w : World) : Calls Try.prog 31 #[.int .i64 x, .int .i64 45] w fun e w' => (∃ y : Int, 0 ≤ y ∧ y < 45 ∧ e = .returned (.int .i64 y)) ∧ w = w' := by
  obtain ⟨r, hr⟩ : ∃ r, Int.tmod x 45 = r := ⟨_, rfl⟩
  have h0 : r.natAbs < 45 := by rw [← hr, Int.natAbs_tmod]; exact Nat.mod_lt _ (by decide)
  have h1 : -45 < r ∧ r < 45 := by omega
  obtain ⟨h1, h2⟩ := h1
  by_cases h : r < 0
  · go_enter Try.func31, Try.ntmps31
    go_wp2_with fail
    go_ret
    exact ⟨⟨_, by omega, by omega, rfl⟩, rfl⟩
  · go_enter Try.func31, Try.ntmps31
    go_wp2_with fail
    go_ret
    exact ⟨⟨_, by omega, by omega, rfl⟩, rfl⟩

set_option maxHeartbeats 800000 in
theorem known19 (w : World) : Calls Try.prog 28 #[] w fun e w' => e = .returned (.bool true) ∧ Below w.heap.size w w' := by
  go_enter Try.func28, Try.ntmps28
  go_wp2_with fail
  refine (mnew_any _ 3 3 (.inr ⟨rfl, by omega⟩)).mono ?_; rintro e w1 ⟨g, v, rfl, M1, b1⟩
  have hv1 : ∀ k, v.ownBlock = some k → w.heap.size ≤ k := fun k hk => (M1.row.lt k hk).1
  have e1 : first 3 = [0, 1, 2] := by decide
  rw [e1] at M1
  have HV := Lib.hid hv1
  have H1 := Lib.hid M1
  have B1 := Lib.hid b1
  clear M1 b1 e1 hv1
  go_wp2_with fail
  refine (mrank_yes _ _ _ _ _ H1.out 2 2 (by decide) (by decide)).mono ?_; rintro e w2 ⟨rfl, M2, f2⟩
  have e2 : front [0, 1, 2] 2 = [2, 0, 1] := by decide
  rw [e2] at M2
  have H2 := Lib.hid M2
  have B2 := Lib.hid (B1.out.trans (f2.below B1.out.size fun i hi hk => by have := HV.out i hk; omega))
  clear M2 f2 e2 H1 B1
  go_wp2_with fail
  refine (mrank_yes _ _ _ _ _ H2.out 2 0 (by decide) (by decide)).mono ?_; rintro e w3 ⟨rfl, M3, f3⟩
  have e3 : front [2, 0, 1] 0 = [2, 0, 1] := by decide
  rw [e3] at M3
  have H3 := Lib.hid M3
  have B3 := Lib.hid (B2.out.trans (f3.below B2.out.size fun i hi hk => by have := HV.out i hk; omega))
  clear M3 f3 e3 H2 B2
  go_wp2_with fail
  have hat := mat_yes _ _ _ _ _ H3.out 1 (by decide)
  have e4 : front [2, 0, 1] 1 = [0, 2, 1] := by decide
  have e5 : ([2, 0, 1] : List Int).getD 1 0 = 0 := by decide
  rw [e4, e5] at hat
  refine Calls.mono hat ?_; rintro e w4 ⟨rfl, M4, f4⟩
  have H4 := Lib.hid M4
  have B4 := Lib.hid (B3.out.trans (f4.below B3.out.size fun i hi hk => by have := HV.out i hk; omega))
  clear M4 f4 e4 e5 hat H3 B3
  go_wp2_with fail
  refine (mrank_no _ _ _ _ _ H4.out 9 (by decide)).mono ?_; rintro e w5 ⟨rfl, rfl⟩
  go_wp2_with fail
  refine ownRet_mono (all_any _ _ _ _ _ H4.out (by decide)) _ ?_
  intro p w6 ho6 b6
  have R6 := Lib.hid (rd_of_owns ho6)
  have B6 := Lib.hid (B4.out.trans (b6.mono B4.out.size))
  clear ho6 b6 B4 H4
  go_wp2_with fail
  refine (ints_same _ _ _ 3 [0, 2, 1] (R6.out.below ((Below.refl _ _).alloc (Nat.le_refl _) _) (Nat.le_refl _)) (rd_new _ (ints [0, 2, 1]) _ 3 1 rfl (by simp [maxLen]))).mono ?_; rintro e w7 ⟨rfl, m, rfl⟩
  go_wp2_with fail
  go_ret
  exact ⟨rfl, below_drewN (B6.out.alloc B6.out.size _) _⟩

def bls (bs : List Bool) : List Value := bs.map Value.bool
/-- A list and its twin: what stands in both, apart from one another. -/
structure Twin (w0 wr : World) (B g : Nat) (v b : Value) (N : Nat) (L : List Int) : Prop where
  len : L.length = N
  list : MtAt wr B g v L
  twin : Rd wr 1 b N (ints L)
  far : ∀ k, b.ownBlock = some k → k ≠ g ∧ v.ownBlock ≠ some k
  own : ∀ k, v.ownBlock = some k → w0.heap.size ≤ k
  below : Below w0.heap.size w0 wr
theorem Twin.keep {w0 wr w' : World} {B g N : Nat} {v b : Value} {L : List Int} (h : Twin w0 wr B g v b N L) (hb : Below wr.heap.size wr w') : Twin w0 w' B g v b N L :=
  ⟨h.len, h.list.keep hb (Nat.le_refl _), h.twin.below hb (Nat.le_refl _), h.far, h.own, h.below.trans (hb.mono h.below.size)⟩
/-- After the list has turned, and its twin was made anew. -/
theorem Twin.turned {w0 wr w4 w5 : World} {B g N i : Nat} {v b b' : Value} {L : List Int} (h : Twin w0 wr B g v b N L) (hi : i < N) (hM : MtAt w4 B g v (front L i)) (hF : Fr (fun k => v.ownBlock = some k) wr w4)
    (ho : w5.ownsRow w4.heap.size 3 1 b' N (ints (front L i))) (hb : Below w4.heap.size w4 w5) : Twin w0 w5 B g v b' N (front L i) :=
  ⟨by rw [front_length _ _ (by rw [h.len]; exact hi), h.len], hM.keep hb (Nat.le_refl _), rd_of_owns ho,
    fun k hk => ⟨fun e => by have := (ho.lt k hk).1; have := hM.blt; omega, fun e => by have := (ho.lt k hk).1; have := (hM.row.lt k e).2; omega⟩, h.own,
    (h.below.trans (hF.below h.below.size fun k hk e => by have := h.own k e; omega)).trans (hb.mono (Nat.le_trans h.below.size hF.size))⟩
theorem Twin.mid {w0 wr w4 : World} {B g N : Nat} {v b : Value} {L : List Int} (h : Twin w0 wr B g v b N L) (hF : Fr (fun k => v.ownBlock = some k) wr w4) : Rd w4 1 b N (ints L) :=
  hF.rd h.twin fun k hk => (h.far k hk).2
theorem Twin.drewN {w0 wr : World} {B g N : Nat} {v b : Value} {L : List Int} (h : Twin w0 wr B g v b N L) (m : Nat) : Twin w0 (wr.drewN m) B g v b N L :=
  ⟨h.len, h.list.fr ((Fr.refl (fun _ => False) wr).drewN m) (fun h => h) (fun _ _ h => h), ((Fr.refl (fun _ => False) wr).drewN m).rd h.twin (fun _ _ h => h), h.far, h.own, below_drewN h.below m⟩

set_option maxHeartbeats 3200000 in
theorem mtfPlays_walk (n0 : Int) (a1 : Option Addr) (n1 c1 : Nat) (zs : List Int) (a2 : Option Addr) (n2 c2 : Nat) (bs : List Bool) (w : World)
    (hr1 : Rd w 1 (.slice a1 n1 c1) n1 (ints zs)) (hz : ∀ z ∈ zs, -9223372036854775808 ≤ z ∧ z ≤ 9223372036854775807) (hc0 : n1 ≤ c1) (hc1 : c1 ≤ 9223372036854775807)
    (hr2 : Rd w 1 (.slice a2 n2 c2) n2 (bls bs)) (hd0 : n2 ≤ c2) (hd1 : c2 ≤ 9223372036854775807) :
    Calls Try.prog 7 #[.int .i64 n0, .slice a1 n1 c1, .slice a2 n2 c2] w fun e w' => e = .returned (.bool true) ∧ Below w.heap.size w w' := by
  by_cases hbig : 60 < n1
  · go_enter Try.func7, Try.ntmps7
    go_wp2_with fail
    refine (known19 _).mono ?_; rintro e w1 ⟨rfl, hb1⟩
    go_wp2_with fail
    go_ret
    exact ⟨rfl, hb1⟩
  by_cases hbig1 : n2 < n1
  · go_enter Try.func7, Try.ntmps7
    go_wp2_with fail
    refine (known19 _).mono ?_; rintro e w1 ⟨rfl, hb1⟩
    go_wp2_with fail
    go_ret
    exact ⟨rfl, hb1⟩
  have hlz : zs.length = n1 := by have := hr1.1; simpa [ints] using this
  have hlb : bs.length = n2 := by have := hr2.1; simpa [bls] using this
  have R1 := Lib.hid hr1
  have R2 := Lib.hid hr2
  have HZ := Lib.hid hz
  have HLZ := Lib.hid hlz
  have HLB := Lib.hid hlb
  clear hr1 hr2 hz hlz hlb
  obtain ⟨r, hr⟩ : ∃ r, Int.tmod n0 40 = r := ⟨_, rfl⟩
  have hra : r.natAbs < 40 := by rw [← hr, Int.natAbs_tmod]; exact Nat.mod_lt _ (by decide)
  obtain ⟨N, hN⟩ : ∃ N, N = r.toNat := ⟨_, rfl⟩
  have hN2 : (r < 0 ∧ N = 0) ∨ (r = N ∧ N < 65536) := by omega
  have hN3 : N < 40 := by omega
  have HN := Lib.hid hN
  clear hN
  go_enter Try.func7, Try.ntmps7
  go_wp2_with fail
  refine (known19 _).mono ?_; rintro e w1 ⟨rfl, b1⟩
  have B1 := Lib.hid b1
  clear b1
  go_wp2_with fail
  refine (mnew_any _ r N hN2).mono ?_; rintro e w2 ⟨g, v, rfl, M2, b2⟩
  have HV := Lib.hid (fun k (hk : v.ownBlock = some k) => Nat.le_trans B1.out.size (M2.row.lt k hk).1)
  have B2 := Lib.hid (B1.out.trans (b2.mono B1.out.size))
  have H2 := Lib.hid M2
  clear M2 b2
  go_wp2_with fail
  refine ownRet_mono (rfirst_any _ r N hN2) _ ?_
  intro b w3 ho3 b3
  have T3 : Twin w w3 w1.heap.size g v b N (first N) :=
    ⟨first_length N, H2.out.keep b3 (Nat.le_refl _), rd_of_owns ho3, fun k hk => ⟨fun e => by have := (ho3.lt k hk).1; have := H2.out.blt; omega, fun e => by have := (ho3.lt k hk).1; have := (H2.out.row.lt k e).2; omega⟩, HV.out, B2.out.trans (b3.mono B2.out.size)⟩
  have HT3 := Lib.hid T3
  clear T3 ho3 b3 H2 B2
  go_wp2_with fail
  go_loopw [8, 9] (fun b i wr => ∃ (k : Nat) (L : List Int), k ≤ n1 ∧ i = .int .i64 (k : Int) ∧ Twin w wr w1.heap.size g v b N L) (fun _ i _ => n1 - (intOf i).toNat)
  case atStart => exact ⟨0, _, by omega, rfl, HT3.out⟩
  case round =>
    obtain ⟨k, L, hk, rfl, hT⟩ := hrel
    obtain ⟨ba, bc, rfl, bc1, bc2, bc3⟩ := rd_shape hT.twin
    have HT := Lib.hid hT
    clear hT
    unfold maxLen at bc2
    by_cases hlt : k < n1
    · have rl := R1.out.below HT.out.below (Nat.le_refl _)
      obtain ⟨lb, lo, rfl, hlc⟩ := Rd_at rl (by omega)
      obtain ⟨z, hzk⟩ : ∃ z, zs[k]? = some z := ⟨_, List.getElem?_eq_getElem (by rw [HLZ.out]; exact hlt)⟩
      obtain ⟨hz0, hz1⟩ := HZ.out z (List.mem_of_getElem? hzk)
      have lcell : wr.cell? ⟨lb, lo + k, none⟩ = some (.int .i64 z) := hlc k _ (by rw [ints, List.getElem?_map, hzk]; rfl)
      have rb := R2.out.below HT.out.below (Nat.le_refl _)
      obtain ⟨tb, tq, rfl, htc⟩ := Rd_at rb (by omega)
      obtain ⟨t, htk⟩ : ∃ t, bs[k]? = some t := ⟨_, List.getElem?_eq_getElem (by rw [HLB.out]; omega)⟩
      have tcell : wr.cell? ⟨tb, tq + k, none⟩ = some (.bool t) := htc k _ (by rw [bls, List.getElem?_map, htk]; rfl)
      clear rl hlc hzk rb htc htk
      go_upto_if 47 with fail
      go_cut [10] (fun s wx => ∃ y : Int, -9223372036854775808 ≤ y ∧ y ≤ 9223372036854775807 ∧ s = .int .i64 y ∧ wx = wr)
      case first =>
        by_cases h3 : 0 < k % 3
        · go_wp2_with fail
          refine (place_any z _).mono ?_; rintro e w' ⟨⟨y, hy0, hy1, rfl⟩, rfl⟩
          go_wp2_with fail
          go_meet
          case rel => exact ⟨y, by omega, by omega, rfl, rfl⟩
        · go_wp2_with fail
          go_meet
          case rel => exact ⟨z, hz0, hz1, rfl, rfl⟩
      case rest =>
        obtain ⟨y, hy0, hy1, rfl, rfl⟩ := hcut
        go_upto_if 53 with fail
        go_cut [8] (fun b' wx => ∃ L' : List Int, Twin w wx w1.heap.size g v b' N L')
        case first =>
          cases t with
          | true =>
            rcases (by omega : y < 0 ∨ (N : Int) ≤ y ∨ (0 ≤ y ∧ y < N)) with hy | hy | ⟨hy, hy'⟩
            · have hA := mat_no _ _ _ _ _ HT.out.list y (.inl hy)
              have HA := Lib.hid hA
              clear hA
              go_wp2_with fail
              refine HA.out.mono ?_; rintro e w4 ⟨rfl, rfl⟩
              go_wp2_with fail
              go_meet
              case rel => exact ⟨L, HT.out⟩
            · have hA := mat_no _ _ _ _ _ HT.out.list y (.inr (by rw [HT.out.len]; exact hy))
              have HA := Lib.hid hA
              clear hA
              go_wp2_with fail
              refine HA.out.mono ?_; rintro e w4 ⟨rfl, rfl⟩
              go_wp2_with fail
              go_meet
              case rel => exact ⟨L, HT.out⟩
            · obtain ⟨i, rfl⟩ := Int.eq_ofNat_of_zero_le hy
              have hi : i < N := by omega
              have hA := mat_yes _ _ _ _ _ HT.out.list i (by rw [HT.out.len]; exact hi)
              obtain ⟨c, hcd⟩ : ∃ c, c = L.getD i 0 := ⟨_, rfl⟩
              rw [← hcd] at hA
              have HA := Lib.hid hA
              have HC := Lib.hid hcd
              clear hA hcd hy hy'
              go_wp2_with fail
              refine HA.out.mono ?_; rintro e w4 ⟨rfl, M4, f4⟩
              have rt := HT.out.mid f4
              obtain ⟨qb, qo, rfl, hqc⟩ := Rd_at rt (by omega)
              have qcell : w4.cell? ⟨qb, qo + i, none⟩ = some (.int .i64 c) := by rw [HC.out]; exact hqc i _ (ints_get L i (by rw [HT.out.len]; exact hi))
              have RT := Lib.hid rt
              have M4' := Lib.hid M4
              have F4 := Lib.hid f4
              clear rt hqc M4 f4
              go_wp2_with fail
              refine ownRet_mono (rfront_any _ _ N L RT.out i hi (by omega)) _ ?_
              intro b' w5 ho5 b5
              have T5 := Lib.hid (HT.out.turned hi M4'.out F4.out ho5 b5)
              clear ho5 b5
              go_wp2_with fail
              go_meet
              case rel => exact ⟨_, T5.out⟩
          | false =>
            by_cases hin : rankOf L y < N
            · obtain ⟨i, hid⟩ : ∃ i, i = rankOf L y := ⟨_, rfl⟩
              have hi : i < N := by omega
              have hA := mrank_yes _ _ _ _ _ HT.out.list y i hid (by rw [HT.out.len]; exact hi)
              have HA := Lib.hid hA
              have HI := Lib.hid hid
              clear hA hid hin
              go_wp2_with fail
              refine HA.out.mono ?_; rintro e w4 ⟨rfl, M4, f4⟩
              have RT := Lib.hid (HT.out.mid f4)
              have M4' := Lib.hid M4
              have F4 := Lib.hid f4
              have hX := rat_any _ _ _ _ RT.out y
              rw [← HI.out, if_pos hi] at hX
              have HX := Lib.hid hX
              clear M4 f4 hX
              go_wp2_with fail
              refine HX.out.mono ?_; rintro e w5 ⟨rfl, rfl⟩
              go_wp2_with fail
              refine ownRet_mono (rfront_any _ _ N L RT.out i hi (by omega)) _ ?_
              intro b' w6 ho6 b6
              have T6 := Lib.hid (HT.out.turned hi M4'.out F4.out ho6 b6)
              clear ho6 b6
              go_wp2_with fail
              go_meet
              case rel => exact ⟨_, T6.out⟩
            · have hrk : rankOf L y = L.length := by have := rankOf_le L y; have := HT.out.len; omega
              have HA := Lib.hid (mrank_no _ _ _ _ _ HT.out.list y hrk)
              have hX := rat_any _ _ _ _ HT.out.twin y
              rw [if_neg hin] at hX
              have HX := Lib.hid hX
              clear hX hrk hin
              go_wp2_with fail
              refine HA.out.mono ?_; rintro e w4 ⟨rfl, rfl⟩
              go_wp2_with fail
              refine HX.out.mono ?_; rintro e w5 ⟨rfl, rfl⟩
              go_wp2_with fail
              go_meet
              case rel => exact ⟨L, HT.out⟩
        case rest =>
          obtain ⟨L', hT'⟩ := hcut
          have HT' := Lib.hid hT'
          clear hT'
          go_wp2_with fail
          refine ownRet_mono (all_any _ _ _ _ _ HT'.out.list (by rw [HT'.out.len]; omega)) _ ?_
          intro p w6 ho6 b6
          have hp := rd_of_owns ho6
          rw [HT'.out.len] at hp
          have RP := Lib.hid hp
          have T6 := Lib.hid (HT'.out.keep b6)
          clear ho6 b6 hp
          go_wp2_with fail
          refine (ints_same _ _ _ N L' RP.out T6.out.twin).mono ?_; rintro e w7 ⟨rfl, m, rfl⟩
          go_wp2_with fail
          go_roundw
          case rel => exact ⟨k + 1, L', by omega, by go_num, T6.out.drewN m⟩
          case measure => simp [intOf]; omega
    · obtain rfl : k = n1 := by omega
      go_wp2_with fail
      refine ownRet_mono (all_any _ _ _ _ _ HT.out.list (by rw [HT.out.len]; omega)) _ ?_
      intro p w6 ho6 b6
      have hp := rd_of_owns ho6
      rw [HT.out.len] at hp
      have RP := Lib.hid hp
      have T6 := Lib.hid (HT.out.keep b6)
      clear ho6 b6 hp
      go_wp2_with fail
      refine (ints_same _ _ _ N L RP.out T6.out.twin).mono ?_; rintro e w7 ⟨rfl, m, rfl⟩
      go_wp2_with fail
      go_ret
      exact ⟨rfl, (T6.out.drewN m).below⟩

def bytI (xs : List Int) : List Value := xs.map (Value.int .u8)
/-- Two lists that stand alike, apart from one another. -/
structure Two (w0 wr : World) (B B' g g' : Nat) (v v' : Value) (K : Nat) (L : List Int) : Prop where
  len : L.length = K
  all : ∀ x : Int, 0 ≤ x → x < K → x ∈ L
  one : MtAt wr B g v L
  two : MtAt wr B' g' v' L
  gne : g ≠ g'
  vg : v.ownBlock ≠ some g'
  gv : v'.ownBlock ≠ some g
  vne : ∀ k, v.ownBlock = some k → v'.ownBlock ≠ some k
  own : ∀ k, v.ownBlock = some k → w0.heap.size ≤ k
  own' : ∀ k, v'.ownBlock = some k → w0.heap.size ≤ k
  below : Below w0.heap.size w0 wr
theorem Two.keep {w0 wr w' : World} {B B' g g' K : Nat} {v v' : Value} {L : List Int} (h : Two w0 wr B B' g g' v v' K L) (hb : Below wr.heap.size wr w') : Two w0 w' B B' g g' v v' K L :=
  { h with one := h.one.keep hb (Nat.le_refl _), two := h.two.keep hb (Nat.le_refl _), below := h.below.trans (hb.mono h.below.size) }
/-- After the first has turned. -/
theorem Two.half {w0 wr w4 : World} {B B' g g' K : Nat} {v v' : Value} {L : List Int} (h : Two w0 wr B B' g g' v v' K L) (hF : Fr (fun k => v.ownBlock = some k) wr w4) : MtAt w4 B' g' v' L ∧ Below w0.heap.size w0 w4 :=
  ⟨h.two.fr hF (fun e => h.vg e) (fun k hk e => h.vne k e hk), h.below.trans (hF.below h.below.size fun k hk e => by have := h.own k e; omega)⟩
theorem Two.turned {w0 wr w4 w5 : World} {B B' g g' K i : Nat} {v v' : Value} {L : List Int} (h : Two w0 wr B B' g g' v v' K L) (hi : i < K) (hM : MtAt w4 B g v (front L i)) (hF : Fr (fun k => v.ownBlock = some k) wr w4)
    (hM' : MtAt w5 B' g' v' (front L i)) (hF' : Fr (fun k => v'.ownBlock = some k) w4 w5) : Two w0 w5 B B' g g' v v' K (front L i) :=
  { h with
    len := by rw [front_length _ _ (by rw [h.len]; exact hi), h.len]
    all := fun x h0 h1 => front_mem L i (by rw [h.len]; exact hi) x (h.all x h0 h1)
    one := hM.fr hF' (fun e => h.gv e) (fun k hk e => h.vne k hk e)
    two := hM'
    below := (h.half hF).2.trans (hF'.below (h.half hF).2.size fun k hk e => by have := h.own' k e; omega) }
theorem Two.drewN {w0 wr : World} {B B' g g' K : Nat} {v v' : Value} {L : List Int} (h : Two w0 wr B B' g g' v v' K L) (m : Nat) : Two w0 (wr.drewN m) B B' g g' v v' K L :=
  h.keep (below_drewN (Below.refl _ _) m)

set_option maxHeartbeats 3200000 in
theorem mtfBack_walk (a0 : Option Addr) (n0 c0 : Nat) (xs : List Int) (n : Int) (w : World)
    (hr0 : Rd w 1 (.slice a0 n0 c0) n0 (bytI xs)) (hx : ∀ x ∈ xs, 0 ≤ x ∧ x ≤ 255) (hc0 : n0 ≤ c0) (hc1 : c0 ≤ 9223372036854775807) (hn0 : 0 ≤ n) (hn1 : n ≤ 255) :
    Calls Try.prog 8 #[.slice a0 n0 c0, .int .u8 n] w fun e w' => e = .returned (.bool true) ∧ Below w.heap.size w w' := by
  by_cases hbig : 100 < n0
  · go_enter Try.func8, Try.ntmps8
    go_wp2_with fail
    refine (known19 _).mono ?_; rintro e w1 ⟨rfl, hb1⟩
    go_wp2_with fail
    go_ret
    exact ⟨rfl, hb1⟩
  have hlx : xs.length = n0 := by have := hr0.1; simpa [bytI] using this
  have R0 := Lib.hid hr0
  have HX := Lib.hid hx
  have HLX := Lib.hid hlx
  clear hr0 hx hlx
  obtain ⟨K, hK⟩ : ∃ K : Nat, (K : Int) = n + 1 := ⟨(n + 1).toNat, by omega⟩
  have hK0 : 1 ≤ K := by omega
  have hK1 : K ≤ 256 := by omega
  obtain rfl : n = (K : Int) - 1 := by omega
  have hKK : IntKind.i64.wrap ((K : Int) - 1 + 1) = K := by rw [IntWalk.i64_in _ (by omega)]; omega
  have hKK2 : (K : Int) - 1 + 1 = K := by omega
  clear hK
  go_enter Try.func8, Try.ntmps8
  go_wp2_with fail
  refine (known19 _).mono ?_; rintro e w1 ⟨rfl, b1⟩
  have B1 := Lib.hid b1
  clear b1
  go_wp2_with fail
  refine (mnew_any _ K K (.inr ⟨rfl, by omega⟩)).mono ?_; rintro e w2 ⟨g, v, rfl, M2, b2⟩
  have HV := Lib.hid (fun k (hk : v.ownBlock = some k) => Nat.le_trans B1.out.size (M2.row.lt k hk).1)
  have B2 := Lib.hid (B1.out.trans (b2.mono B1.out.size))
  have H2 := Lib.hid M2
  clear M2 b2
  go_wp2_with fail
  refine (mnew_any _ K K (.inr ⟨rfl, by omega⟩)).mono ?_; rintro e w3 ⟨g', v', rfl, M3, b3⟩
  have T3 : Two w w3 w1.heap.size w2.heap.size g g' v v' K (first K) :=
    ⟨first_length K, fun x h0 h1 => by obtain ⟨j, rfl⟩ := Int.eq_ofNat_of_zero_le h0; exact List.mem_map.2 ⟨j, by simpa using h1, rfl⟩,
      H2.out.keep b3 (Nat.le_refl _), M3, fun e => by have := M3.base; have := H2.out.blt; omega, fun e => by have := (H2.out.row.lt _ e).2; have := M3.base; omega,
      fun e => by have := (M3.row.lt _ e).1; have := H2.out.blt; omega, fun k hk e => by have := (M3.row.lt _ e).1; have := (H2.out.row.lt _ hk).2; omega,
      HV.out, fun k hk => Nat.le_trans B2.out.size (M3.row.lt k hk).1, B2.out.trans (b3.mono B2.out.size)⟩
  have HT3 := Lib.hid T3
  clear T3 M3 b3 H2 B2
  go_wp2_with fail
  go_loopw [8] (fun i wr => ∃ (k : Nat) (L : List Int), k ≤ n0 ∧ i = .int .i64 (k : Int) ∧ Two w wr w1.heap.size w2.heap.size g g' v v' K L) (fun i _ => n0 - (intOf i).toNat)
  case atStart => exact ⟨0, _, by omega, rfl, HT3.out⟩
  case round =>
    obtain ⟨k, L, hk, rfl, hT⟩ := hrel
    have HT := Lib.hid hT
    clear hT
    by_cases hlt : k < n0
    · have rl := R0.out.below HT.out.below (Nat.le_refl _)
      obtain ⟨lb, lo, rfl, hlc⟩ := Rd_at rl (by omega)
      obtain ⟨z, hzk⟩ : ∃ z, xs[k]? = some z := ⟨_, List.getElem?_eq_getElem (by rw [HLX.out]; exact hlt)⟩
      obtain ⟨hz0, hz1⟩ := HX.out z (List.mem_of_getElem? hzk)
      have lcell : wr.cell? ⟨lb, lo + k, none⟩ = some (.int .u8 z) := hlc k _ (by rw [bytI, List.getElem?_map, hzk]; rfl)
      clear rl hlc hzk
      obtain ⟨X, hX⟩ : ∃ X, z % (K : Int) = X := ⟨_, rfl⟩
      have hX0 : 0 ≤ X := by rw [← hX]; exact Int.emod_nonneg _ (by omega)
      have hX1 : X < K := by rw [← hX]; exact Int.emod_lt_of_pos _ (by omega)
      obtain ⟨i, hid⟩ : ∃ i, i = rankOf L X := ⟨_, rfl⟩
      have hiL : i < L.length := by rw [hid]; exact rankOf_mem L X (HT.out.all X hX0 hX1)
      have hi : i < K := by rw [← HT.out.len]; exact hiL
      have HA := Lib.hid (mrank_yes _ _ _ _ _ HT.out.one X i hid hiL)
      have hgx : L.getD i 0 = X := by rw [hid]; exact rankOf_at L X (by rw [← hid]; exact hiL)
      have HG := Lib.hid hgx
      have HLI := Lib.hid hiL
      clear hid hiL hgx
      go_wp2_with fail
      refine HA.out.mono ?_; rintro e w4 ⟨rfl, M4, f4⟩
      obtain ⟨M4b, B4⟩ := HT.out.half f4
      have hA2 := mat_yes _ _ _ _ _ M4b i HLI.out
      rw [HG.out] at hA2
      have HA2 := Lib.hid hA2
      have HM4 := Lib.hid M4
      have F4 := Lib.hid f4
      clear M4 f4 M4b B4 hA2
      go_wp2_with fail
      refine HA2.out.mono ?_; rintro e w5 ⟨rfl, M5, f5⟩
      have T5 := Lib.hid (HT.out.turned hi HM4.out F4.out M5 f5)
      clear M5 f5
      go_wp2_with fail
      go_roundw
      case rel => exact ⟨k + 1, _, by omega, by go_num, T5.out⟩
      case measure => simp [intOf]; omega
    · obtain rfl : k = n0 := by omega
      go_wp2_with fail
      refine ownRet_mono (all_any _ _ _ _ _ HT.out.one (by rw [HT.out.len]; omega)) _ ?_
      intro p w6 ho6 b6
      have hp := rd_of_owns ho6
      rw [HT.out.len] at hp
      have RP := Lib.hid hp
      have T6 := Lib.hid (HT.out.keep b6)
      clear ho6 b6 hp
      go_wp2_with fail
      refine ownRet_mono (all_any _ _ _ _ _ T6.out.two (by rw [T6.out.len]; omega)) _ ?_
      intro q w7 ho7 b7
      have hq := rd_of_owns ho7
      rw [T6.out.len] at hq
      have RQ := Lib.hid hq
      have RP7 := Lib.hid (RP.out.below b7 (Nat.le_refl _))
      have T7 := Lib.hid (T6.out.keep b7)
      clear ho7 b7 hq
      go_wp2_with fail
      refine (ints_same _ _ _ K L RP7.out RQ.out).mono ?_; rintro e w8 ⟨rfl, m, rfl⟩
      have T8 := Lib.hid (T7.out.drewN m)
      go_wp2_with fail
      refine ownRet_mono (all_any _ _ _ _ _ T8.out.one (by rw [T8.out.len]; omega)) _ ?_
      intro s w9 ho9 b9
      obtain ⟨sa, sc, rfl, _, _, _⟩ := owns_shape ho9
      have hlen := T8.out.len
      have T9 := Lib.hid (T8.out.keep b9)
      clear ho9 b9
      have q : (((L.length : Nat) : Int) == (K : Int)) = true := by simp [hlen]
      go_wp2_with fail
      go_ret
      exact ⟨rfl, T9.out.below⟩
theorem mtfBack_law (a0 : Option Addr) (len0 cap0 : Nat) (z0 : List Int) (a1 : Int) (w : World) (w0 : RowOf .u8 w a0 len0 cap0 z0) (w1 : (Lit.int .u8 a1).wf = true) :
    Calls Try.prog 8 #[.slice a0 len0 cap0, .int .u8 a1] w fun e w' => e = .returned (.bool true) ∧ Below w.heap.size w w' :=
  mtfBack_walk a0 len0 cap0 (z0.take len0) a1 w w0.rd (fun x hx => rng_u8 (w0.wf x hx)) w0.bounds.1 w0.bounds.2 (rng_u8 w1).1 (rng_u8 w1).2
theorem mtfPlays_law (a0 : Int) (a1 : Option Addr) (len1 cap1 : Nat) (z1 : List Int) (a2 : Option Addr) (len2 cap2 : Nat) (bs : List Bool) (w : World) (w1 : RowOf .i64 w a1 len1 cap1 z1) (w2 : BoolsAt w a2 len2 cap2 bs) :
    Calls Try.prog 7 #[.int .i64 a0, .slice a1 len1 cap1, .slice a2 len2 cap2] w fun e w' => e = .returned (.bool true) ∧ Below w.heap.size w w' :=
  mtfPlays_walk a0 a1 len1 cap1 (z1.take len1) a2 len2 cap2 bs w w1.rd (fun x hx => rng_i64 (w1.wf x hx)) w1.bounds.1 w1.bounds.2 w2.1 w2.2.1 w2.2.2
end Go.Proofs.Ytmdhiigonlnoiaa
