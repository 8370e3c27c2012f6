/- The walk of PortPumps. -/
import Derived.Test.YtjgndjcpdedkiaaPort4
namespace Go.Proofs.Ytjgndjcpdedkiaa
open Go.RowKit Go.Waf Go.Conc
set_option maxRecDepth 100000
set_option linter.unusedVariables false

theorem convB {w : World} {v : Value} {n : Nat} {xs : List Int} (hr : Rd w 1 v n (byt xs)) : (convert 22 9 v).run Try.prog w = .ok (.string (strOfNums xs)) w :=
  conv_rd Try.underlying22 Try.underlying5 Try.underlying9 hr
theorem str_append (xs ys : List Int) : strOfNums xs ++ strOfNums ys = strOfNums (xs ++ ys) := by
  apply ByteArray.ext
  simp [strOfNums, ByteArray.data_append]

theorem str_at (L : List Int) (k : Nat) (x : Int) (hx : L[k]? = some x) (hb : 0 ≤ x ∧ x ≤ 255) (h : k < (strOfNums L).size) : (((strOfNums L)[k]'h).toNat : Int) = x := by
  obtain ⟨hk, he⟩ := List.getElem?_eq_some_iff.1 hx
  have e : (strOfNums L)[k]'h = UInt8.ofNat x.toNat := by
    show ((L.map fun n => UInt8.ofNat n.toNat).toArray)[k]'(by simpa using hk) = _
    simp [he]
  rw [e, UInt8.toNat_ofNat']
  omega
/-- Two ports, apart from one another. -/
structure Both (w0 wr : World) (B g c M B' g' c' N : Nat) (q q' : List Int) (shut : Bool) : Prop where
  one : PortAt wr B g c M q false
  two : PortAt wr B' g' c' N q' shut
  ne : g ≠ g' ∧ c ≠ c' ∧ g ≠ c' ∧ c ≠ g'
  base : w0.heap.size ≤ B ∧ w0.heap.size ≤ B'
  below : Below w0.heap.size w0 wr
theorem Both.turn {w0 wr w' : World} {B g c M B' g' c' N : Nat} {q q' q1 q1' : List Int} {shut shut' : Bool} (h : Both w0 wr B g c M B' g' c' N q q' shut) (h1 : PortAt w' B g c M q1 false) (h2 : PortAt w' B' g' c' N q1' shut')
    (hF : Fr (fun k => k = g ∨ k = c ∨ k = g' ∨ k = c') wr w') : Both w0 w' B g c M B' g' c' N q1 q1' shut' :=
  ⟨h1, h2, h.ne, h.base, h.below.trans (hF.below h.below.size fun i hi hk => by have := h.one.base; have := h.two.base; have := h.base; omega)⟩
theorem Both.drewN {w0 wr : World} {B g c M B' g' c' N : Nat} {q q' : List Int} {shut : Bool} (h : Both w0 wr B g c M B' g' c' N q q' shut) (m : Nat) : Both w0 (wr.drewN m) B g c M B' g' c' N q q' shut :=
  ⟨h.one.drewN m, h.two.drewN m, h.ne, h.base, below_drewN h.below m⟩

set_option maxHeartbeats 3200000 in
theorem portPumps_walk (a0 : Option Addr) (n0 c0 : Nat) (xs : List Int) (a1 : Option Addr) (n1 c1 : Nat) (ys : List Int) (fr t most : Int) (hm0 : -9223372036854775808 ≤ most) (hm1 : most ≤ 9223372036854775807) (shut one : Bool) (w : World)
    (hr0 : Rd w 1 (.slice a0 n0 c0) n0 (byt xs)) (hr1 : Rd w 1 (.slice a1 n1 c1) n1 (byt ys)) (hd0 : n0 ≤ c0 ∧ c0 ≤ 9223372036854775807) (hd1 : n1 ≤ c1 ∧ c1 ≤ 9223372036854775807) (hxs : ∀ z ∈ xs, 0 ≤ z ∧ z ≤ 255) (hys : ∀ z ∈ ys, 0 ≤ z ∧ z ≤ 255) :
    Calls Try.prog 14 #[.slice a0 n0 c0, .slice a1 n1 c1, .int .i64 fr, .int .i64 t, .int .i64 most, .bool shut, .bool one] w fun e w' => e = .returned (.bool true) ∧ Below w.heap.size w w' := by
  obtain ⟨d0, d0'⟩ := hd0
  obtain ⟨d1, d1'⟩ := hd1
  by_cases hbig0 : 40 < n0
  · go_enter Try.func14, Try.ntmps14
    go_wp2_with fail
    refine (known10 _).mono ?_; rintro e w1 ⟨rfl, hb1⟩
    go_wp2_with fail
    go_ret
    exact ⟨rfl, hb1⟩
  by_cases hbig1 : 40 < n1
  · go_enter Try.func14, Try.ntmps14
    go_wp2_with fail
    refine (known10 _).mono ?_; rintro e w1 ⟨rfl, hb1⟩
    go_wp2_with fail
    go_ret
    exact ⟨rfl, hb1⟩
  have hl0 : xs.length = n0 := by have := hr0.1; simpa [byt] using this
  have hl1 : ys.length = n1 := by have := hr1.1; simpa [byt] using this
  have R0 := Lib.hid hr0
  have R1 := Lib.hid hr1
  have HL0 := Lib.hid hl0
  have HL1 := Lib.hid hl1
  have HXS := Lib.hid hxs
  have HYS := Lib.hid hys
  clear hr0 hr1 hl0 hl1 hxs hys
  go_enter Try.func14, Try.ntmps14
  go_wp2_with fail
  refine (known10 _).mono ?_; rintro e w1 ⟨rfl, b1⟩
  have B1 := Lib.hid b1
  clear b1
  go_wp2_with fail
  refine (place30_any fr _).mono ?_; rintro e w' ⟨⟨y1, hy0, hy1, rfl⟩, rfl⟩
  obtain ⟨M, hM⟩ : ∃ M : Nat, y1 + 1 = (M : Int) := ⟨(y1 + 1).toNat, by omega⟩
  have hMw : IntKind.i64.wrap (y1 + 1) = M := by rw [IntWalk.i64_in _ (by omega)]; exact hM
  have hM0 : 1 ≤ M := by omega
  have hM1 : M ≤ 30 := by omega
  go_wp2_with fail
  refine (place30_any t _).mono ?_; rintro e w' ⟨⟨y2, hz0, hz1, rfl⟩, rfl⟩
  obtain ⟨N, hN⟩ : ∃ N : Nat, y2 + 1 = (N : Int) := ⟨(y2 + 1).toNat, by omega⟩
  have hNw : IntKind.i64.wrap (y2 + 1) = N := by rw [IntWalk.i64_in _ (by omega)]; exact hN
  have hN0 : 1 ≤ N := by omega
  have hN1 : N ≤ 30 := by omega
  go_wp2_with fail
  refine (pfilled_any _ M hM0 (by omega) _ n0 xs (R0.out.below B1.out (Nat.le_refl _)) (by omega)).mono ?_; rintro e w2 ⟨g, c, rfl, p2, b2⟩
  have P2 := Lib.hid p2
  have B2 := Lib.hid (B1.out.trans (b2.mono B1.out.size))
  clear p2 b2
  go_wp2_with fail
  refine (pfilled_any _ N hN0 (by omega) _ n1 ys (R1.out.below B2.out (Nat.le_refl _)) (by omega)).mono ?_; rintro e w3 ⟨g', c', rfl, p3, b3⟩
  obtain ⟨X, hX⟩ : ∃ X, X = min n0 M := ⟨_, rfl⟩
  obtain ⟨Y, hY⟩ : ∃ Y, Y = min n1 N := ⟨_, rfl⟩
  have hX1 : X ≤ n0 := by omega
  have hY1 : Y ≤ n1 := by omega
  have hX2 : X ≤ M := by omega
  have hY2 : Y ≤ N := by omega
  have hxt : xs.take M = xs.take X := by
    rw [hX]
    by_cases h1 : n0 ≤ M
    · rw [Nat.min_eq_left h1, List.take_of_length_le (by rw [HL0.out]; exact h1), List.take_of_length_le (by rw [HL0.out]; omega)]
    · rw [Nat.min_eq_right (by omega)]
  have hyt : ys.take N = ys.take Y := by
    rw [hY]
    by_cases h1 : n1 ≤ N
    · rw [Nat.min_eq_left h1, List.take_of_length_le (by rw [HL1.out]; exact h1), List.take_of_length_le (by rw [HL1.out]; omega)]
    · rw [Nat.min_eq_right (by omega)]
  rw [hyt] at p3
  have p2' := P2.out.keep b3 (Nat.le_refl _)
  rw [hxt] at p2'
  have T3 : Both w w3 w1.heap.size g c M w2.heap.size g' c' N (xs.take X) (ys.take Y) false := by
    have h1 := P2.out.lt
    have h2 := p3.base
    exact ⟨p2', p3, by omega, ⟨B1.out.size, B2.out.size⟩, B2.out.trans (b3.mono B2.out.size)⟩
  have hlx : (xs.take X).length = X := by rw [List.length_take, HL0.out]; omega
  have hly : (ys.take Y).length = Y := by rw [List.length_take, HL1.out]; omega
  have HT3 := Lib.hid T3
  have HLX := Lib.hid hlx
  have HLY := Lib.hid hly
  have HX := Lib.hid hX
  have HY := Lib.hid hY
  clear T3 p3 b3 p2' hxt hyt hlx hly hX hY
  go_upto_region 7 with fail
  go_cut [19, 20] (fun a b wx => a = .slice a0 X c0 ∧ b = .slice a1 Y c1 ∧ ∃ m, wx = w3.drewN m)
  case first =>
    have h1 : (n0 : Int) ≤ M ∧ X = n0 ∨ (M : Int) < n0 ∧ X = M := by have := HX.out; omega
    have h2 : (n1 : Int) ≤ N ∧ Y = n1 ∨ (N : Int) < n1 ∧ Y = N := by have := HY.out; omega
    rcases h1 with ⟨h1, rfl⟩ | ⟨h1, rfl⟩ <;> rcases h2 with ⟨h2, rfl⟩ | ⟨h2, rfl⟩
    all_goals
      go_region
      all_goals
        go_wp2_with fail
        go_meet
        case rel => exact ⟨rfl, rfl, 1, rfl⟩
  case rest =>
    obtain ⟨rfl, rfl, m3, hwc⟩ := hcut
    rw [hwc]
    clear hwc
    obtain ⟨W3, hW3⟩ : ∃ W3, W3 = w3.drewN m3 := ⟨_, rfl⟩
    have T := Lib.hid (hW3 ▸ HT3.out.drewN m3 : Both w W3 w1.heap.size g c M w2.heap.size g' c' N (xs.take X) (ys.take Y) false)
    rw [← hW3]
    clear hW3
    go_upto_if 68 with fail
    go_cut [] (fun wx => Both w wx w1.heap.size g c M w2.heap.size g' c' N (xs.take X) (ys.take Y) shut)
    case first =>
      cases shut with
      | true =>
        go_wp2_with fail
        refine (pclose_any _ _ _ _ _ _ _ T.out.two).mono ?_; rintro e w4 ⟨rfl, p4, f4⟩
        have T4 := Lib.hid (T.out.turn (T.out.one.fr f4 (fun e => T.out.ne.1 e) (fun e => T.out.ne.2.2.2 e)) p4 (f4.mono (fun i _ e => .inr (.inr (.inl e)))))
        clear p4 f4
        go_wp2_with fail
        go_meet
        case rel => exact T4.out
      | false =>
        go_wp2_with fail
        go_meet
        case rel => exact T.out
    case rest =>
      have T4 := Lib.hid hcut
      clear hcut
      have hgg := T4.out.ne
      cases one with
      | true =>
        obtain ⟨K, hKc⟩ : ∃ K : Nat, (most < 0 ∧ (K : Int) = 0) ∨ (0 ≤ most ∧ most ≤ X ∧ (K : Int) = most) ∨ (0 ≤ most ∧ (X : Int) < most ∧ (K : Int) = X) := by
          by_cases h1 : most < 0
          · exact ⟨0, .inl ⟨h1, rfl⟩⟩
          · by_cases h2 : most ≤ X
            · exact ⟨most.toNat, .inr (.inl ⟨by omega, h2, by omega⟩)⟩
            · exact ⟨X, .inr (.inr ⟨by omega, by omega, rfl⟩)⟩
        have HPS := Lib.hid (pump_same _ _ _ _ _ _ T4.out.one most K (by rw [HLX.out]; omega) (by omega) (by rw [HLX.out]; omega))
        have HRG := Lib.hid (fun W => ring_any W (X : Int) (M : Int) most (K : Int) (by omega) (by omega) hKc)
        clear hKc
        go_wp2_with fail
        refine HPS.out.mono ?_; rintro e w5 ⟨rfl, ⟨q5, hq5, p5⟩, f5⟩
        have HQ5 := Lib.hid hq5
        have B5 := Lib.hid (T4.out.below.trans (f5.below T4.out.below.size fun i hi e => by have := T4.out.one.base; have := T4.out.base; omega))
        have hst := pstate_any _ _ _ _ _ _ _ p5
        rw [hq5, HLX.out] at hst
        have HST := Lib.hid hst
        clear hst hq5 p5 f5
        go_wp2_with fail
        refine HST.out.mono ?_; rintro e w6 ⟨rfl, m, rfl⟩
        go_wp2_with fail
        refine (HRG.out _).mono ?_; rintro e w7 ⟨rfl, rfl⟩
        go_wp2_with fail
        refine (pump_nil1 _ _ _).mono ?_; rintro e w8 ⟨rfl, rfl⟩
        go_wp2_with fail
        refine (pump_nil2 _ _ _).mono ?_; rintro e w9 ⟨rfl, rfl⟩
        go_wp2_with fail
        go_ret
        exact ⟨rfl, below_drewN B5.out m⟩
      | false =>
        obtain ⟨K0, hK0⟩ : ∃ K0 : Nat, (K0 : Int) = min (max most 0) (min (X : Int) ((N : Int) - Y)) := ⟨(min (max most 0) (min (X : Int) ((N : Int) - Y))).toNat, by omega⟩
        obtain ⟨K, hK⟩ : ∃ K : Nat, (shut = true ∧ K = 0) ∨ (shut = false ∧ K = K0) := by
          cases shut
          · exact ⟨K0, .inr ⟨rfl, rfl⟩⟩
          · exact ⟨0, .inl ⟨rfl, rfl⟩⟩
        have hKX : K ≤ X := by rcases hK with ⟨_, h1⟩ | ⟨_, h1⟩ <;> omega
        have HPT := Lib.hid (pump_two _ _ _ _ _ _ _ _ _ _ _ shut T4.out.one T4.out.two T4.out.ne.1 T4.out.ne.2.1 T4.out.ne.2.2.1 (fun e => T4.out.ne.2.2.2 e) most K (by rw [HLX.out]; omega) (by omega) (by
          rcases hK with ⟨h1, h2⟩ | ⟨h1, h2⟩
          · exact .inl ⟨h1, h2⟩
          · refine .inr ⟨h1, ?_⟩
            rw [HLX.out, HLY.out, h2]; exact hK0))
        have HK := Lib.hid hK
        have HK0 := Lib.hid hK0
        clear hK hK0
        go_wp2_with fail
        refine HPT.out.mono ?_; rintro e w5 ⟨rfl, p5, p5', f5⟩
        have T5 := Lib.hid (T4.out.turn p5 p5' (f5.mono (fun i _ e => by rcases e with e | e; exact .inr (.inl e); exact .inr (.inr (.inr e)))))
        clear p5 p5' f5
        go_upto_region 15 with fail
        go_cut [25] (fun k wx => k = .int .i64 (K0 : Int) ∧ wx = w5)
        case first =>
          have hk0 := HK0.out
          have hNY : IntKind.i64.wrap ((N : Int) - Y) = (N : Int) - Y := by rw [IntWalk.i64_in _ (by omega)]
          by_cases h1 : most < 0
          · obtain rfl : K0 = 0 := by omega
            have hz2 : (0 : Int) ≤ (N : Int) - Y := by omega
            clear hk0
            go_wp2_with fail
            go_meet
            case rel => exact ⟨rfl, rfl⟩
          · rcases (by omega : (most ≤ X ∧ most ≤ (N : Int) - Y ∧ (K0 : Int) = most) ∨ ((X : Int) < most ∧ (X : Int) ≤ (N : Int) - Y ∧ (K0 : Int) = X) ∨ ((N : Int) - Y < most ∧ (N : Int) - Y < X ∧ most ≤ X ∧ (K0 : Int) = (N : Int) - Y) ∨ ((N : Int) - Y < X ∧ (X : Int) < most ∧ (K0 : Int) = (N : Int) - Y)) with ⟨h2, h3, h4⟩ | ⟨h2, h3, h4⟩ | ⟨h2, h3, h4, h5⟩ | ⟨h2, h3, h4⟩
            all_goals
              clear hk0
              go_wp2_with fail
              go_meet
              case rel => exact ⟨by congr 1; omega, rfl⟩
        case rest =>
          obtain ⟨rfl, hwc⟩ := hcut
          rw [hwc]
          clear hwc
          go_upto_if 117 with fail
          go_cut [25] (fun k wx => k = .int .i64 (K : Int) ∧ wx = w5)
          case first =>
            rcases HK.out with ⟨rfl, rfl⟩ | ⟨rfl, rfl⟩
            all_goals
              go_wp2_with fail
              go_meet
              case rel => exact ⟨rfl, rfl⟩
          case rest =>
            obtain ⟨rfl, hwc⟩ := hcut
            rw [hwc]
            clear hwc
            obtain ⟨L, hL⟩ : ∃ L, L = ys.take Y ++ (xs.take X).take K := ⟨_, rfl⟩
            have hLl : L.length = Y + K := by rw [hL, List.length_append, HLY.out, List.length_take, HLX.out]; omega
            have T5' : Both w w5 w1.heap.size g c M w2.heap.size g' c' N ((xs.take X).drop K) L shut := by rw [hL]; exact T5.out
            have HT5 := Lib.hid T5'
            have ry : Rd w5 1 (.slice a1 Y c1) Y (byt (ys.take Y)) := by
              have := (R1.out.below T5.out.below (Nat.le_refl _)).take Y c1 hY1 (by omega) (Nat.le_refl _)
              rwa [Nat.mul_one, byt, ← List.map_take] at this
            have rx : Rd w5 1 (.slice a0 K c0) K (byt ((xs.take X).take K)) := by
              have := (R0.out.below T5.out.below (Nat.le_refl _)).take K c0 (by omega) (by omega) (Nat.le_refl _)
              rw [List.take_take, Nat.min_eq_left hKX]
              rwa [Nat.mul_one, byt, ← List.map_take] at this
            have cy := convB ((Fr.refl (fun _ => False) w5).drew.rd ry (fun _ _ h => h))
            have cx := convB ((Fr.refl (fun _ => False) w5).drew.rd rx (fun _ _ h => h))
            have hap := str_append (ys.take Y) ((xs.take X).take K)
            rw [← hL] at hap
            have hKc0 : (K : Int) ≤ c0 := by omega
            have hs1 : (strOfNums (ys.take Y)).size = Y := by rw [strOfNums_size, HLY.out]
            have hs2 : (strOfNums ((xs.take X).take K)).size = K := by rw [strOfNums_size, List.length_take, HLX.out]; omega
            have hs3 : ¬ 9223372036854775807 < Y + K := by omega
            have hLb : ∀ z ∈ L, 0 ≤ z ∧ z ≤ 255 := by
              intro z hz
              rw [hL] at hz
              rcases List.mem_append.1 hz with hz | hz
              · exact HYS.out z (List.mem_of_mem_take hz)
              · exact HXS.out z (List.mem_of_mem_take (List.mem_of_mem_take hz))
            have HLL := Lib.hid hLl
            have HLB := Lib.hid hLb
            clear ry rx hL hLl T5' hLb
            go_upto_region 20 with fail
            go_cut [26] (fun s wx => s = .string (strOfNums L) ∧ ∃ m, wx = w5.drewN m)
            case first =>
              go_region
              all_goals
                go_wp2_with fail
                go_meet
                case rel => exact ⟨rfl, 1, rfl⟩
            case rest =>
              obtain ⟨rfl, m5, hwc⟩ := hcut
              rw [hwc]
              have T6 := Lib.hid (HT5.out.drewN m5)
              obtain ⟨w6, hw6⟩ : ∃ w6, w6 = w5.drewN m5 := ⟨_, rfl⟩
              rw [← hw6] at T6 ⊢
              clear hwc hw6 cy cx hap
              go_wp2_with fail
              go_loopw [27] (fun i wr => ∃ k : Nat, k ≤ Y + K ∧ i = .int .i64 (k : Int) ∧ Both w wr w1.heap.size g c M w2.heap.size g' c' N ((xs.take X).drop K) (L.drop k) shut) (fun i _ => (Y + K) - (intOf i).toNat)
              case atStart => exact ⟨0, by omega, rfl, by simpa using T6.out⟩
              case round =>
                obtain ⟨k, hk, rfl, hT⟩ := hrel
                have HT := Lib.hid hT
                clear hT
                have hsz : (strOfNums L).size = Y + K := by rw [strOfNums_size, HLL.out]
                by_cases hlt : k < Y + K
                · have hd : ∃ x, L.drop k = x :: L.drop (k + 1) ∧ L[k]? = some x := by
                    have hl : k < L.length := by rw [HLL.out]; exact hlt
                    exact ⟨L[k], List.drop_eq_getElem_cons hl, List.getElem?_eq_getElem hl⟩
                  obtain ⟨x, hd, hx⟩ := hd
                  have h2 := HT.out.two
                  rw [hd] at h2
                  have HPO := Lib.hid (ppoll_some _ _ _ _ _ _ _ _ h2)
                  have hch : (((strOfNums L)[k]'(by rw [hsz]; exact hlt)).toNat : Int) = x := str_at L k x hx (HLB.out x (List.mem_of_getElem? hx)) _
                  clear h2 hd hx
                  go_wp2_with fail
                  refine HPO.out.mono ?_; rintro e w7 ⟨rfl, p7, f7⟩
                  have T7 := Lib.hid (HT.out.turn (HT.out.one.fr f7 (fun e => HT.out.ne.2.2.1 e) (fun e => HT.out.ne.2.1 e)) p7 (f7.mono (fun i _ e => .inr (.inr (.inr e)))))
                  clear p7 f7
                  go_wp2_with fail
                  go_roundw
                  case rel => exact ⟨k + 1, by omega, by go_num, T7.out⟩
                  case measure => simp [intOf]; omega
                · obtain rfl : k = Y + K := by omega
                  have hnil : L.drop (Y + K) = [] := List.drop_eq_nil_of_le (by rw [HLL.out]; omega)
                  have h2 := HT.out.two
                  rw [hnil] at h2
                  have HPN := Lib.hid (ppoll_none _ _ _ _ _ _ h2)
                  have hst := pstate_any _ _ _ _ _ _ _ HT.out.one
                  rw [List.length_drop, HLX.out] at hst
                  have hXK : ((X - K : Nat) : Int) = (X : Int) - K := by omega
                  have HST := Lib.hid hst
                  clear h2 hnil hst
                  go_wp2_with fail
                  refine HPN.out.mono ?_; rintro e w7 ⟨rfl, rfl⟩
                  go_wp2_with fail
                  refine HST.out.mono ?_; rintro e w8 ⟨rfl, m8, rfl⟩
                  go_wp2_with fail
                  go_ret
                  exact ⟨rfl, below_drewN HT.out.below m8⟩
theorem portPumps_law (a0 : Option Addr) (len0 cap0 : Nat) (z0 : List Int) (a1 : Option Addr) (len1 cap1 : Nat) (z1 : List Int) (a2 a3 a4 : Int) (a5 a6 : Bool) (w : World) (w0 : RowOf .u8 w a0 len0 cap0 z0) (w1 : RowOf .u8 w a1 len1 cap1 z1) (w4 : (Lit.int .i64 a4).wf = true) :
    Calls Try.prog 14 #[.slice a0 len0 cap0, .slice a1 len1 cap1, .int .i64 a2, .int .i64 a3, .int .i64 a4, .bool a5, .bool a6] w fun e w' => e = .returned (.bool true) ∧ Below w.heap.size w w' :=
  portPumps_walk a0 len0 cap0 (z0.take len0) a1 len1 cap1 (z1.take len1) a2 a3 a4 (rng_i64 w4).1 (rng_i64 w4).2 a5 a6 w w0.rd w1.rd w0.bounds w1.bounds (fun x hx => rng_u8 (w0.wf x hx)) (fun x hx => rng_u8 (w1.wf x hx))
end Go.Proofs.Ytjgndjcpdedkiaa
