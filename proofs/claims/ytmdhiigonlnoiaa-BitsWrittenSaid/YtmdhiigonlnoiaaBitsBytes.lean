/- The walk of BitsBytes. -/
import Derived.Test.YtmdhiigonlnoiaaBitsLaws
import Derived.Deep.RegionWith
import Derived.Deep.RegionHeld3
namespace Go.Proofs.Ytmdhiigonlnoiaa
open Go.RowKit Go.Waf
set_option maxRecDepth 100000
set_option linter.unusedVariables false
attribute [local go_sem] mask1_u64 mask1_u8

def byteBits (xs : List Int) : List Bool := xs.flatMap fun x => bitsN (x.toNat + 256) 8
theorem byteBits_snoc (xs : List Int) (x : Int) : byteBits (xs ++ [x]) = byteBits xs ++ bitsN (x.toNat + 256) 8 := by simp [byteBits]
theorem byteBits_length (xs : List Int) : (byteBits xs).length = 8 * xs.length := by
  induction xs with
  | nil => rfl
  | cons x xs ih => simp only [byteBits, List.flatMap_cons, List.length_append, bitsN_length, List.length_cons] at *; omega

theorem numAt_pack (bs : List Bool) (p n : Nat) (h : p + n ≤ bs.length) : numAt (pack bs) p n = number ((bs.drop p).take n) := by
  unfold numAt
  congr 1
  apply List.ext_getElem?
  intro i
  rw [List.getElem?_map, List.getElem?_take, List.getElem?_drop]
  by_cases hi : i < n
  · rw [if_pos hi, List.getElem?_range hi, Option.map_some, pack, bitOf_pack _ _ _ (by omega), List.getElem?_eq_getElem (by omega)]
    simp [List.getD, List.getElem?_eq_getElem (show p + i < bs.length by omega)]
  · rw [if_neg hi, List.getElem?_eq_none (by simp; omega)]; rfl
theorem number_falses (l : List Bool) (h : ∀ b ∈ l, b = false) : number l = 0 := by
  induction l with
  | nil => rfl
  | cons b l ih =>
    have hb := h b (by simp)
    subst hb
    have := ih (fun b hb => h b (by simp [hb]))
    simpa [number] using this
theorem rest_pack (bs : List Bool) : restB (pack bs) bs.length = true := by
  have hl : (pack bs).length = (bs.length + 7) / 8 := packTo_length _ _
  have hz : numAt (pack bs) bs.length (8 * (pack bs).length - bs.length) = 0 := by
    unfold numAt
    apply number_falses
    intro b hb
    obtain ⟨t, ht, rfl⟩ := List.mem_map.1 hb
    have := List.mem_range.1 ht
    rw [pack, bitOf_pack _ _ _ (by omega), getD_past _ _ (by omega)]
  rw [restB, hz, decide_eq_true (by omega)]; rfl
theorem byteBits_drop (xs : List Int) (k X : Nat) (hX : xs[k]? = some (X : Int)) : ((byteBits xs).drop (8 * k)).take 8 = bitsN (X + 256) 8 := by
  have hk := (List.getElem?_eq_some_iff.1 hX).1
  have h1 : xs = xs.take k ++ (X : Int) :: xs.drop (k + 1) := by
    have h2 := (List.getElem?_eq_some_iff.1 hX).2
    rw [← h2, ← List.drop_eq_getElem_cons hk, List.take_append_drop]
  have h3 : byteBits xs = byteBits (xs.take k) ++ (bitsN (X + 256) 8 ++ byteBits (xs.drop (k + 1))) := by
    conv => lhs; rw [h1]
    simp [byteBits]
  rw [h3, List.drop_append_of_le_length (by rw [byteBits_length, List.length_take]; omega), List.drop_of_length_le (by rw [byteBits_length, List.length_take]; omega), List.nil_append, List.take_append_of_le_length (by rw [bitsN_length]; omega), List.take_of_length_le (by rw [bitsN_length]; omega)]
theorem number_byte : ∀ X < 256, number (bitsN (X + 256) 8) = X := by decide +kernel
theorem byte_of : ∀ X < 256, byteAt (bitsN (X + 256) 8) 0 = (X : Int) := by decide +kernel
theorem pack_byteBits (xs : List Int) (hx : ∀ x ∈ xs, 0 ≤ x ∧ x ≤ 255) : pack (byteBits xs) = xs := by
  have hl : (pack (byteBits xs)).length = xs.length := by rw [pack, packTo_length, byteBits_length]; omega
  apply List.ext_getElem?
  intro i
  by_cases hi : i < xs.length
  · obtain ⟨X, hX, hX2⟩ : ∃ X : Nat, xs[i]? = some (X : Int) ∧ X ≤ 255 := by
      have h2 := hx xs[i] (List.getElem_mem hi)
      exact ⟨xs[i].toNat, by rw [List.getElem?_eq_getElem hi]; congr 1; omega, by omega⟩
    rw [hX, pack, packTo, List.getElem?_map, List.getElem?_range (by rw [byteBits_length]; omega), Option.map_some]
    have h := byteBits_drop xs i X hX
    congr 1
    have hg : ∀ j, j < 8 → (byteBits xs).getD (8 * i + j) false = (bitsN (X + 256) 8).getD j false := by
      intro j hj
      rw [← h]
      simp [List.getD, List.getElem?_drop, hj]
    rw [← byte_of X (by omega)]
    unfold byteAt
    rw [show 8 * i = 8 * i + 0 from rfl, hg 0 (by omega), hg 1 (by omega), hg 2 (by omega), hg 3 (by omega), hg 4 (by omega), hg 5 (by omega), hg 6 (by omega), hg 7 (by omega)]
  · rw [List.getElem?_eq_none (by omega), List.getElem?_eq_none (by omega)]

set_option maxHeartbeats 1600000 in
theorem bitsBytes_walk (a0 : Option Addr) (n0 cap0 : Nat) (xs : List Int) (c : Nat) (w : World)
    (hr0 : Rd w 1 (.slice a0 n0 cap0) n0 (byt xs)) (hx : ∀ x ∈ xs, 0 ≤ x ∧ x ≤ 255) (hc0 : n0 ≤ cap0) (hc1 : cap0 ≤ 9223372036854775807) (hc : c ≤ 255) :
    Calls Try.prog 6 #[.slice a0 n0 cap0, .int .u8 c] w fun e w' => e = .returned (.bool true) ∧ Below w.heap.size w w' := by
  by_cases hbig : 60 < n0
  · go_enter Try.func6, Try.ntmps6
    go_wp2_with fail
    refine (known1 _).mono ?_; rintro e w1 ⟨rfl, hb1⟩
    go_wp2_with fail
    go_ret
    exact ⟨rfl, hb1⟩
  have hlen : xs.length = n0 := by have := hr0.1; simpa [byt] using this
  have R0 := Lib.hid hr0
  have HX := Lib.hid hx
  have HL := Lib.hid hlen
  clear hr0 hx hlen
  obtain ⟨K, hK, hK8⟩ : ∃ K : Nat, ((c : Int) % 8) = K ∧ K < 8 := ⟨c % 8, by omega, by omega⟩
  go_enter Try.func6, Try.ntmps6
  go_wp2_with fail
  refine (known1 _).mono ?_; rintro e w1 ⟨rfl, b1⟩
  go_wp2_with fail
  refine (newW _).mono ?_; rintro e w2 ⟨g, rfl, W2, b2⟩
  go_wp2_with fail
  refine (put_call W2 b2.size 0 K (by omega) (by simp) (by omega)).mono ?_; rintro e w3 ⟨v3, rfl, W3, b3, _, _⟩
  have B3 := Lib.hid (b1.trans ((b2.trans b3).mono b1.size))
  have HW3 := Lib.hid W3
  rw [List.nil_append] at HW3
  have hs1 := b1.size
  have hs13 : w1.heap.size ≤ w3.heap.size := (b2.trans b3).size
  clear W2 W3 b1 b2 b3
  go_wp2_with fail
  have hcl : (bitsN 0 K ++ byteBits xs).length = K + 8 * n0 := by rw [List.length_append, bitsN_length, byteBits_length, HL.out]
  have HCL := Lib.hid hcl
  clear hcl
  go_loopw [7] (fun i wr => ∃ k v, k ≤ n0 ∧ i = .int .i64 (k : Nat) ∧ WrAt wr w1.heap.size g v (bitsN 0 K ++ byteBits (xs.take k)) ∧ Below w.heap.size w wr ∧ w1.heap.size ≤ wr.heap.size) (fun i _ => n0 - (intOf i).toNat)
  case atStart => exact ⟨0, v3, by omega, rfl, by simpa [byteBits] using HW3.out, B3.out, hs13⟩
  case round =>
    obtain ⟨k, v, hk, rfl, hwr, hb, hsr⟩ := hrel
    by_cases hlt : k < n0
    · have rl := R0.out.below hb (Nat.le_refl _)
      obtain ⟨lb, lo, rfl, hlc⟩ := Rd_at rl (by omega)
      obtain ⟨X, hX, hX2⟩ : ∃ X : Nat, xs[k]? = some (X : Int) ∧ X ≤ 255 := by
        have h1 : k < xs.length := by rw [HL.out]; exact hlt
        have h2 := HX.out xs[k] (List.getElem_mem h1)
        exact ⟨xs[k].toNat, by rw [List.getElem?_eq_getElem h1]; congr 1; omega, by omega⟩
      have lcell : wr.cell? ⟨lb, lo + k, none⟩ = some (.int .u8 (X : Int)) := hlc k _ (by rw [byt, List.getElem?_map, hX]; rfl)
      have hor : bits .or .u64 (X : Int) 256 = ((X + 256 : Nat) : Int) := by
        have h1 := u64_or_nat X 256 (by omega) (by decide)
        rw [Nat.or_comm, show 256 ||| X = 256 + X from (Nat.two_pow_add_eq_or_of_lt (i := 8) (by omega) 1).symm, Nat.add_comm] at h1
        exact h1
      have htk : xs.take (k + 1) = xs.take k ++ [(X : Int)] := by rw [List.take_add_one, hX]; rfl
      have HTK := Lib.hid htk
      have C := Lib.hid (put_call hwr hsr (X + 256) 8 (by omega) (by rw [List.length_append, bitsN_length, byteBits_length, List.length_take, HL.out]; omega) (by omega))
      have HB := Lib.hid hb
      clear rl hlc hX htk hwr hb
      go_wp2_with (go_at_call 17; refine C.out.mono ?_; rintro e w4 ⟨v4, rfl, W4, b4, _, _⟩)
      go_roundw
      case rel =>
        refine ⟨k + 1, v4, by omega, by congr 1, ?_, HB.out.trans (b4.mono hs1), Nat.le_trans hsr b4.size⟩
        rw [HTK.out, byteBits_snoc, ← List.append_assoc]
        exact W4
      case measure => simp [intOf]; omega
    · obtain rfl : k = n0 := by omega
      rw [List.take_of_length_le (by rw [HL.out]; omega)] at hwr
      have HWR := Lib.hid hwr
      have HB := Lib.hid hb
      clear hwr hb
      go_upto_region 12 with fail
      go_cut [49] (fun t wx => t = .bool false ∧ WrAt wx w1.heap.size g v (bitsN 0 K ++ byteBits xs) ∧ Below w.heap.size w wx ∧ w1.heap.size ≤ wx.heap.size)
      case first =>
        by_cases hK0 : K = 0
        · subst hK0
          have W1 := Lib.hid (show WrAt wr.drew w1.heap.size g v (bitsN 0 0 ++ byteBits xs) from HWR.out.fr (F := fun _ => False) (Fr.refl _ _).drew (fun h => h) (fun _ _ h => h))
          have hp : pack (bitsN 0 0 ++ byteBits xs) = xs := pack_byteBits xs HX.out
          have C1 : Calls Try.prog 20 #[.pointer (some ⟨g, 0, none⟩)] wr.drew fun e w3 => ∃ p, e = .returned p ∧ (convert 33 9 p).run Try.prog w3 = .ok (.string (strOfNums xs)) w3 ∧ (convert 33 9 (.slice a0 k cap0)).run Try.prog w3 = .ok (.string (strOfNums xs)) w3 ∧ Below wr.heap.size wr w3 := by
            refine ownRet_mono (bytes_any _ _ _ _ _ W1.out (by rw [HCL.out]; omega)) _ ?_
            intro p w3 ho3 hb3
            rw [hp] at ho3
            have hb3' : Below wr.heap.size wr w3 := (Below.drew (Below.refl wr.heap.size wr)).trans hb3
            exact ⟨p, rfl, convB (rd_of_owns ho3), convB (R0.out.below (HB.out.trans (hb3'.mono HB.out.size)) (Nat.le_refl _)), hb3'⟩
          have C := Lib.hid C1
          have cb := convB (R0.out.below (HB.out.trans (Below.drew (Below.refl _ _))) (Nat.le_refl _))
          clear C1 hp
          go_region_with (go_at_call 20; refine C.out.mono ?_; rintro e w3 ⟨p, rfl, cp, cq, hb3⟩)
          all_goals (go_wp2_with fail; go_meet; exact ⟨rfl, HWR.out.keep hb3 (Nat.le_refl _), HB.out.trans (hb3.mono HB.out.size), Nat.le_trans hsr hb3.size⟩)
        · have hk0 : ((K : Int) == 0) = false := beq_eq_false_iff_ne.2 (by omega)
          go_region
          go_wp2_with fail
          go_meet
          exact ⟨rfl, HWR.out.fr (F := fun _ => False) (Fr.refl _ _).drew (fun h => h) (fun _ _ h => h), HB.out.drew, hsr⟩
      case rest =>
        obtain ⟨rfl, hw5, hb5, hs5⟩ := hcut
        obtain ⟨bs, hbs⟩ : ∃ bs, bs = bitsN 0 K ++ byteBits xs := ⟨_, rfl⟩
        have HBS := Lib.hid hbs
        rw [← hbs] at hw5 HCL
        have hbl : bs.length ≤ 1000000 := by rw [HCL.out]; omega
        have HW5 := Lib.hid hw5
        have HB5 := Lib.hid hb5
        clear hw5 hb5 HWR HB hbs
        go_wp2_with fail
        refine ownRet_mono (bytes_any _ _ _ _ _ HW5.out hbl) _ ?_
        intro p w6 ho6 b6
        have R6 := Lib.hid (rd_of_owns ho6)
        have HB6 := Lib.hid b6
        have hpx : ∀ x ∈ pack bs, 0 ≤ x ∧ x ≤ 255 := packTo_bytes _ _
        have HPX := Lib.hid hpx
        have hs6 := b6.size
        clear ho6 b6 hpx
        go_wp2_with fail
        refine (newReader_any _ _ _ _ R6.out (by omega) HPX.out).mono ?_; rintro e w7 ⟨g7, v7, rfl, r7, b7⟩
        have hpl : (pack bs).length = (bs.length + 7) / 8 := packTo_length _ _
        have HPL := Lib.hid hpl
        have HR7 := Lib.hid r7
        have HB7 := Lib.hid b7
        have hs7 := b7.size
        clear r7 b7 hpl
        go_wp2_with fail
        refine (get_call HR7.out hs7 K (by omega) (by rw [HPL.out, HCL.out]; omega)).mono ?_; rintro e w8 ⟨rfl, r8, b8⟩
        have hz : numAt (pack bs) 0 K = 0 := by
          rw [numAt_pack _ _ _ (by rw [HCL.out]; omega), HBS.out, List.drop_zero, List.take_append_of_le_length (by rw [bitsN_length]; omega), List.take_of_length_le (by rw [bitsN_length]; omega)]
          apply number_falses
          intro b hb
          obtain ⟨j, _, rfl⟩ := List.mem_map.1 hb
          simp
        rw [hz, Nat.zero_add] at *
        have b58 : Below wc.heap.size wc w8 := HB6.out.trans ((HB7.out.trans b8).mono hs6)
        have W8 := Lib.hid (HW5.out.keep b58 (Nat.le_refl _))
        have HB8 := Lib.hid (HB5.out.trans (b58.mono HB5.out.size))
        have HR8 := Lib.hid r8
        have hs8 : w6.heap.size ≤ w8.heap.size := Nat.le_trans hs7 b8.size
        have hs68 : w.heap.size ≤ w6.heap.size := Nat.le_trans HB5.out.size hs6
        clear hz b58 b8 r8
        have hln : ((bs.length : Nat) : Int) = 8 * (k : Int) + (K : Int) := by rw [HCL.out]; omega
        have LN := Lib.hid (len_any _ _ _ _ _ W8.out)
        rw [hln] at LN
        clear hln
        go_wp2_with (go_at_call 19; refine LN.out.mono ?_; rintro e w9 ⟨rfl, rfl⟩)
        go_loopw [11] (fun i wr => ∃ j, j ≤ k ∧ i = .int .i64 (j : Nat) ∧ RdAt wr w6.heap.size g7 v7 (pack bs) (K + 8 * j) ∧ Below w.heap.size w wr ∧ w6.heap.size ≤ wr.heap.size) (fun i _ => k - (intOf i).toNat)
        case atStart => exact ⟨0, by omega, rfl, HR8.out, HB8.out, hs8⟩
        case round =>
          obtain ⟨j, hj, rfl, hr, hb, hsr2⟩ := hrel
          by_cases hlt2 : j < k
          · have rl := R0.out.below hb (Nat.le_refl _)
            obtain ⟨lb, lo, rfl, hlc⟩ := Rd_at rl (by omega)
            obtain ⟨X, hX, hX2⟩ : ∃ X : Nat, xs[j]? = some (X : Int) ∧ X ≤ 255 := by
              have h1 : j < xs.length := by rw [HL.out]; exact hlt2
              have h2 := HX.out xs[j] (List.getElem_mem h1)
              exact ⟨xs[j].toNat, by rw [List.getElem?_eq_getElem h1]; congr 1; omega, by omega⟩
            have lcell : ∀ w', Below w6.heap.size wr w' → w'.cell? ⟨lb, lo + j, none⟩ = some (.int .u8 (X : Int)) := fun w' hw' => by
              have rl' := R0.out.below (hb.trans (hw'.mono hs68)) (Nat.le_refl _)
              obtain ⟨lb', lo', he, hlc'⟩ := Rd_at rl' (by omega)
              cases he
              exact hlc' j _ (by rw [byt, List.getElem?_map, hX]; rfl)
            have hv : numAt (pack bs) (K + 8 * j) 8 = X := by
              rw [numAt_pack _ _ _ (by rw [HCL.out]; omega), HBS.out, ← List.drop_drop]
              rw [List.drop_append_of_le_length (l₁ := bitsN 0 K) (i := K) (by rw [bitsN_length]; omega), List.drop_of_length_le (l := bitsN 0 K) (by rw [bitsN_length]; omega), List.nil_append, byteBits_drop xs j X hX]
              exact number_byte X (by omega)
            have G := Lib.hid (get_call hr hsr2 8 (by omega) (by rw [HPL.out, HCL.out]; omega))
            rw [hv] at G
            have HBB := Lib.hid hb
            have HLC := Lib.hid lcell
            clear rl hlc hX lcell hv hr hb
            go_wp2_with (go_at_call 24; refine G.out.mono ?_; rintro e wx ⟨rfl, rx, bx⟩; have lcx := HLC.out _ bx)
            go_roundw
            case rel => exact ⟨j + 1, by omega, by congr 1, by rw [show K + 8 * (j + 1) = K + 8 * j + 8 by omega]; exact rx, HBB.out.trans (bx.mono hs68), Nat.le_trans hsr2 bx.size⟩
            case measure => simp [intOf]; omega
          · obtain rfl : j = k := by omega
            rw [← HCL.out] at hr
            have RS := Lib.hid (rest_any _ _ _ _ _ _ hr)
            rw [rest_pack] at RS
            have HBB := Lib.hid hb
            clear hr hb
            go_wp2_with (go_at_call 27; refine RS.out.mono ?_; rintro e w7 ⟨rfl, m7, rfl⟩)
            go_ret
            exact ⟨rfl, below_drewN HBB.out _⟩

theorem bitsBytes_law (a0 : Option Addr) (len0 cap0 : Nat) (z0 : List Int) (a1 : Int) (w : World) (w0 : RowOf .u8 w a0 len0 cap0 z0) (w1 : (Lit.int .u8 a1).wf = true) :
    Calls Try.prog 6 #[.slice a0 len0 cap0, .int .u8 a1] w fun e w' => e = .returned (.bool true) ∧ Below w.heap.size w w' := by
  have h1 := rng_u8 w1
  obtain ⟨v, rfl⟩ := Int.eq_ofNat_of_zero_le h1.1
  exact bitsBytes_walk a0 len0 cap0 (z0.take len0) v w w0.rd (fun x hx => rng_u8 (w0.wf x hx)) w0.bounds.1 w0.bounds.2 (by omega)
end Go.Proofs.Ytmdhiigonlnoiaa
