/- Contracts of the references Pack, Unpack, Number. -/
import Derived.Test.YtmdhiigonlnoiaaBits3
import Derived.Laws.OwnMore
namespace Go.Proofs.Ytmdhiigonlnoiaa
open Go.RowKit Go.Waf
set_option maxRecDepth 100000
set_option linter.unusedVariables false
attribute [local go_sem] mask1_u64 mask1_u8

theorem madeZeros (m : Nat) : (madeCells (Value.int .u8 0).cells (m * 1)).toList = byt (packTo [] m) := by
  apply List.ext_getElem?
  intro i
  simp [madeCells, Value.cells, byt, packTo]
  by_cases h : i < m
  · simp [h, Nat.mod_one, byteAt_past]
  · simp [h]
theorem infoB : ∃ i : TypeInfo, Try.prog.info? 5 = some i ∧ i.zero = some (.int .u8 0) ∧ i.size = 1 ∧ i.bytes = 1 := by
  have h : (Try.prog.info? 5).map (fun i => (i.zero, i.size, i.bytes)) = some (some (.int .u8 0), 1, 1) := by kernel_rfl
  cases hi : Try.prog.info? 5 with
  | none => rw [hi] at h; simp at h
  | some i =>
    rw [hi] at h
    simp only [Option.map_some, Option.some.injEq, Prod.mk.injEq] at h
    exact ⟨i, rfl, h.1, h.2.1, h.2.2⟩

theorem ownRet_mono {B e size n : Nat} {cs : List Value} {P : Program} {f : FuncId} {args : Array Value} {w : World} (h : Calls P f args w (OwnRet B e size n cs w)) (R : Ending → World → Prop) (hR : ∀ v w', w'.ownsRow B e size v n cs → Below B w w' → R (.returned v) w') : Calls P f args w R :=
  h.mono fun _ _ ⟨v, he, h1, h2⟩ => he ▸ hR v _ h1 h2
theorem Rd_at {w : World} {size n cap : Nat} {a : Option Addr} {cs : List Value} (h : Rd w size (.slice a n cap) n cs) (hn : 0 < n) : ∃ b off, a = some ⟨b, off, none⟩ ∧ ∀ j u, cs[j]? = some u → w.cell? ⟨b, off + j, none⟩ = some u := by
  obtain ⟨_, a', cap', he, _, _, _, h4⟩ := h
  cases he
  exact h4 hn
theorem pack_or (cs : List Bool) (k M : Nat) (old u : Int) (hk : k = cs.length) (ho : old = byteAt cs (k / 8)) (hu : u = 128 / 2 ^ (k % 8)) :
    (packTo cs M).set (k / 8) (bits .or .u8 old u) = packTo (cs ++ [true]) M := by
  subst hk; subst ho
  have hu2 : u = b2i true * 2 ^ (7 - cs.length % 8) := by
    rw [hu]
    have : cs.length % 8 < 8 := Nat.mod_lt _ (by omega)
    generalize cs.length % 8 = r at this
    rcases (by omega : r = 0 ∨ r = 1 ∨ r = 2 ∨ r = 3 ∨ r = 4 ∨ r = 5 ∨ r = 6 ∨ r = 7) with h | h | h | h | h | h | h | h <;> subst h <;> rfl
  have hb := byteAt_le cs (cs.length / 8)
  have hs := (byteAt_snoc cs true).2
  rw [hu2, or_free _ _ _ (by omega) hb.1 hb.2 (by rw [show 7 - cs.length % 8 + 1 = 8 - cs.length % 8 by omega]; exact hs)]
  exact packTo_set cs true M

set_option maxHeartbeats 800000 in
theorem rpack_any (w : World) (v : Value) (n : Nat) (bs : List Bool) (hr : Rd w 1 v n (bls bs)) (hn : n ≤ 1000000) :
    Calls Try.prog 21 #[v] w (OwnRet w.heap.size 5 1 ((n + 7) / 8) (byt (pack bs)) w) := by
  obtain ⟨va, vc, rfl, vc1, vc2, vc3⟩ := rd_shape hr
  have hlen : bs.length = n := by have := hr.1; simpa [bls] using this
  obtain ⟨M, hM⟩ : ∃ M, M = (n + 7) / 8 := ⟨_, rfl⟩
  have hM8 : ((n : Int) + 7) / 8 = (M : Int) := by omega
  have hM1 : M ≤ 125001 := by omega
  obtain ⟨i, hi, hz, hsi, hby⟩ := infoB
  obtain ⟨w1, hrun, hown1, hg1⟩ := run_make_full (P := Try.prog) (w := w) w.heap.size 33 5 i (.int .u8 0) 1 Try.underlying33 hi hz hsi .i64 .i64 M (by rw [hby]; omega) (by simp only [maxLen]; omega) (Nat.le_refl _)
  rw [madeZeros] at hown1
  have hb1 : Below w.heap.size w w1 := ⟨hg1.os, hg1.tape, hg1.output, hg1.size, fun k hk => hg1.block k hk (by simp)⟩
  have R0 := Lib.hid hr
  have HO1 := Lib.hid hown1
  have HB1 := Lib.hid hb1
  have HM := Lib.hid hM
  have HL := Lib.hid hlen
  have hm : (Instr.makeSlice 33 (.int .i64 (M : Int)) (.int .i64 (M : Int))).run Try.prog w = .ok (.slice (some ⟨w.heap.size, 0, none⟩) M M) w1 := hrun
  clear hr hown1 hg1 hb1 hM hlen hrun
  go_enter Try.func21, Try.ntmps21
  go_wp2_with fail
  go_loopw [4] (fun i wr => ∃ k : Nat, k ≤ n ∧ i = .int .i64 (k : Int) ∧ wr.ownsRow w.heap.size 5 1 (.slice (some ⟨w.heap.size, 0, none⟩) M M) M (byt (packTo (bs.take k) M)) ∧ Below w.heap.size w wr) (fun i _ => n - (intOf i).toNat)
  case atStart => exact ⟨0, by omega, rfl, by simpa using HO1.out, HB1.out⟩
  case round =>
    obtain ⟨k, hk, rfl, hown, hb⟩ := hrel
    have hsz := hb.size
    by_cases hlt : k < n
    · obtain ⟨b, hbk⟩ : ∃ b, bs[k]? = some b := ⟨_, List.getElem?_eq_getElem (by rw [HL.out]; exact hlt)⟩
      have htake : bs.take (k + 1) = bs.take k ++ [b] := by rw [List.take_add_one, hbk]; rfl
      obtain ⟨cs, hcs⟩ : ∃ cs, cs = bs.take k := ⟨_, rfl⟩
      have hcl : cs.length = k := by rw [hcs, List.length_take]; have := HL.out; omega
      rw [← hcs] at hown htake
      have rb := R0.out.below hb (Nat.le_refl _)
      obtain ⟨ab, ao, rfl, hc⟩ := Rd_at rb (by omega)
      have cin : wr.cell? ⟨ab, ao + k, none⟩ = some (.bool b) := hc k _ (by rw [bls, List.getElem?_map, hbk]; rfl)
      obtain ⟨old, hold⟩ : ∃ old, old = byteAt cs (k / 8) := ⟨_, rfl⟩
      have hkM : k / 8 < M := by have := HM.out; omega
      have dh : wr.cell? ⟨w.heap.size, k / 8, none⟩ = some (.int .u8 old) := by
        rw [hown.cellAt (k / 8) (by omega), byt_get _ _ (by rw [packTo_length]; omega), packTo_getD _ _ _ (by omega), hold]
      have eh := hown.frozenAt (k / 8)
      have hob := byteAt_le cs (k / 8)
      rw [← hold] at hob
      have HO := Lib.hid hold
      have HW := Lib.hid hown
      have HT := Lib.hid htake
      have HCL := Lib.hid hcl
      have HC := Lib.hid hcs
      have k8 : IntKind.i64.wrap ((k : Int) / 8) = ((k / 8 : Nat) : Int) := by rw [IntWalk.i64_in _ (by omega)]; omega
      clear hold hown htake hcl hcs hc rb
      cases b with
      | true =>
        go_wp2_with fail
        go_region
        go_wp2_with fail
        go_roundw
        case rel =>
          refine ⟨k + 1, by omega, by congr 1, ?_, (hb.setCell (Nat.le_refl _) _).drew⟩
          rw [HT.out, ← pack_or cs k M old _ HCL.out.symm HO.out rfl]
          have hst := (HW.out.stored (k / 8) (.int .u8 (bits .or .u8 old (128 / 2 ^ (k % 8))))).1
          have e : (byt (packTo cs M)).set (k / 8) (.int .u8 (bits .or .u8 old (128 / 2 ^ (k % 8)))) = byt ((packTo cs M).set (k / 8) (bits .or .u8 old (128 / 2 ^ (k % 8)))) := by simp [byt, List.map_set]
          rw [← e]
          exact hst
        case measure => simp [intOf]; omega
      | false =>
        go_wp2_with fail
        go_roundw
        case rel =>
          refine ⟨k + 1, by omega, by congr 1, ?_, hb⟩
          rw [HT.out, packTo_false]
          exact HW.out
        case measure => simp [intOf]; omega
    · obtain rfl : k = n := by omega
      have HO := Lib.hid hown
      clear hown
      go_wp2_with fail
      go_ret
      refine ⟨_, rfl, ?_, hb⟩
      have h1 := HO.out
      rw [List.take_of_length_le (by rw [HL.out]; omega)] at h1
      rw [pack, HL.out, ← HM.out]
      exact h1

theorem take_unpack (xs : List Int) (k X : Nat) (hX : xs[k]? = some (X : Int)) : (unpack xs).take (8 * (k + 1)) = (unpack xs).take (8 * k) ++ bitsN X 8 := by
  have hk : k < xs.length := (List.getElem?_eq_some_iff.1 hX).1
  have hl : ((unpack xs).take (8 * k)).length = 8 * k := by rw [List.length_take, unpack_length]; omega
  apply List.ext_getElem?
  intro i
  rw [List.getElem?_take, List.getElem?_append, hl, List.getElem?_take]
  by_cases h1 : i < 8 * k
  · simp [h1, show i < 8 * (k + 1) by omega]
  · by_cases h2 : i < 8 * (k + 1)
    · simp only [h1, h2, if_true, if_false]
      rw [unpack_get _ _ (by omega), bitsN_get _ _ _ (by omega), bitOf]
      have e1 : i / 8 = k := by omega
      have e2 : 7 - i % 8 = 8 - 1 - (i - 8 * k) := by omega
      have e3 : xs.getD k 0 = (X : Int) := by simp [List.getD, hX]
      rw [e1, e2, e3]
      congr 1
      have h3 : ((X : Int) / 2 ^ (8 - 1 - (i - 8 * k)) % 2) = ((X / 2 ^ (8 - 1 - (i - 8 * k)) % 2 : Nat) : Int) := by push_cast; rfl
      rw [h3]
      generalize X / 2 ^ (8 - 1 - (i - 8 * k)) % 2 = Y
      rw [Bool.eq_iff_iff]; simp; omega
    · simp only [h1, h2, if_false]
      rw [List.getElem?_eq_none (by rw [bitsN_length]; omega)]

set_option maxHeartbeats 800000 in
theorem runpack_any (w : World) (v : Value) (n : Nat) (xs : List Int) (hr : Rd w 1 v n (byt xs)) (hn : n ≤ 1000) (hx : ∀ x ∈ xs, 0 ≤ x ∧ x ≤ 255) :
    Calls Try.prog 23 #[v] w (OwnRet w.heap.size 4 1 (8 * n) (bls (unpack xs)) w) := by
  obtain ⟨va, vc, rfl, vc1, vc2, vc3⟩ := rd_shape hr
  have hlen : xs.length = n := by have := hr.1; simpa [byt] using this
  have R0 := Lib.hid hr
  have HL := Lib.hid hlen
  have HX := Lib.hid hx
  clear hr hlen hx
  go_enter Try.func23, Try.ntmps23
  go_wp2_with fail
  go_loopw [3, 4] (fun o i wr => ∃ k : Nat, k ≤ n ∧ i = .int .i64 (k : Int) ∧ wr.ownsRow w.heap.size 4 1 o (8 * k) (bls ((unpack xs).take (8 * k))) ∧ Below w.heap.size w wr) (fun _ i _ => n - (intOf i).toNat)
  case atStart => exact ⟨0, by omega, rfl, by simpa [bls] using World.ownsRow_nil _ _ _ _, Below.refl _ _⟩
  case round =>
    obtain ⟨k, hk, rfl, hown, hb⟩ := hrel
    have hsz := hb.size
    by_cases hlt : k < n
    · obtain ⟨X, hX, hX2⟩ : ∃ X : Nat, xs[k]? = some (X : Int) ∧ X ≤ 255 := by
        have h1 : k < xs.length := by rw [HL.out]; exact hlt
        have h2 := HX.out xs[k] (List.getElem_mem h1)
        exact ⟨xs[k].toNat, by rw [List.getElem?_eq_getElem h1]; congr 1; omega, by omega⟩
      have rb := R0.out.below hb (Nat.le_refl _)
      obtain ⟨ab, ao, rfl, hc⟩ := Rd_at rb (by omega)
      have cin : wr.cell? ⟨ab, ao + k, none⟩ = some (.int .u8 (X : Int)) := hc k _ (by rw [byt, List.getElem?_map, hX]; rfl)
      have HT := Lib.hid (take_unpack xs k X hX)
      have HO := Lib.hid hown
      clear hc rb hX hown
      go_wp2_with fail
      refine ownRet_mono (rbits_any _ X 8 (by omega) (by omega)) _ ?_
      intro c w2 ho2 hb2
      have HO2 := Lib.hid ((Fr.of_new (F := fun _ => False) hb2).owns HO.out (fun _ _ h => h))
      have R2 := Lib.hid (rd_of_owns ho2)
      clear ho2
      have hsz2 := hb2.size
      go_wp2_with (at_builtin; refine app_own _ elemBool rfl _ _ rfl w.heap.size _ (8 * k) (bls ((unpack xs).take (8 * k))) rfl HO2.out c 8 (bls (bitsN X 8)) rfl R2.out (one_bls _) (by simp only [maxLen]; omega) (by omega) (by omega) ?_; intro v' w3 hown2 hg2)
      go_roundw
      case rel =>
        refine ⟨k + 1, by omega, by congr 1, ?_, below_of_grown (hb.trans (hb2.mono hsz)) (by omega) HO2.out (Nat.le_refl _) rfl hg2⟩
        rw [HT.out]
        simpa [bls, Nat.mul_add] using hown2
      case measure => simp [intOf]; omega
    · obtain rfl : k = n := by omega
      have HO := Lib.hid hown
      clear hown
      go_wp2_with fail
      go_ret
      refine ⟨_, rfl, ?_, hb⟩
      have h1 := HO.out
      rwa [List.take_of_length_le (by rw [unpack_length, HL.out]; omega)] at h1

set_option maxHeartbeats 400000 in
theorem rnumber_any (w : World) (v : Value) (n : Nat) (bs : List Bool) (hr : Rd w 1 v n (bls bs)) (hn : n ≤ 64) :
    Calls Try.prog 25 #[v] w fun e w' => e = .returned (.int .u64 (number bs : Nat)) ∧ w = w' := by
  obtain ⟨va, vc, rfl, vc1, vc2, vc3⟩ := rd_shape hr
  have hlen : bs.length = n := by have := hr.1; simpa [bls] using this
  have R0 := Lib.hid hr
  have HL := Lib.hid hlen
  clear hr hlen
  go_enter Try.func25, Try.ntmps25
  go_wp2_with fail
  go_loop [3, 4] (fun a i => ∃ k : Nat, k ≤ n ∧ i = .int .i64 (k : Int) ∧ a = .int .u64 (number (bs.take k) : Nat)) (fun _ i => n - (intOf i).toNat)
  case atStart => exact ⟨0, by omega, rfl, rfl⟩
  case round =>
    obtain ⟨k, hk, rfl, rfl⟩ := hrel
    by_cases hlt : k < n
    · obtain ⟨b, hbk⟩ : ∃ b, bs[k]? = some b := ⟨_, List.getElem?_eq_getElem (by rw [HL.out]; exact hlt)⟩
      have htake : bs.take (k + 1) = bs.take k ++ [b] := by rw [List.take_add_one, hbk]; rfl
      obtain ⟨ab, ao, rfl, hc⟩ := Rd_at R0.out (by omega)
      have cin : w.cell? ⟨ab, ao + k, none⟩ = some (.bool b) := hc k _ (by rw [bls, List.getElem?_map, hbk]; rfl)
      have hnl := number_lt (bs.take k)
      rw [List.length_take, HL.out, Nat.min_eq_left hk] at hnl
      have hp : (2 : Nat) ^ k ≤ 2 ^ 63 := Nat.pow_le_pow_right (by decide) (by omega)
      obtain ⟨x, hx⟩ : ∃ x, x = number (bs.take k) := ⟨_, rfl⟩
      have hx63 : x < 9223372036854775808 := by omega
      have hnum : number (bs.take (k + 1)) = 2 * x + (if b then 1 else 0) := by rw [htake, number_snoc, hx]
      have hor := or_b2i x b hx63
      rw [← hx]
      have HN := Lib.hid hnum
      clear hc htake hnl hp hx hnum
      cases b with
      | true =>
        simp only [b2i, if_true] at hor
        go_wp2_with fail
        go_round
        case rel =>
          refine ⟨k + 1, by omega, by congr 1, ?_⟩
          rw [HN.out]; rfl
        case measure => simp [intOf]; omega
      | false =>
        clear hor
        go_wp2_with fail
        go_round
        case rel =>
          refine ⟨k + 1, by omega, by congr 1, ?_⟩
          rw [HN.out]; simp only [Bool.false_eq_true, if_false]; congr 1; omega
        case measure => simp [intOf]; omega
    · obtain rfl : k = n := by omega
      go_wp2_with fail
      go_ret
      refine ⟨?_, rfl⟩
      rw [List.take_of_length_le (by rw [HL.out]; omega)]
      rfl
end Go.Proofs.Ytmdhiigonlnoiaa
