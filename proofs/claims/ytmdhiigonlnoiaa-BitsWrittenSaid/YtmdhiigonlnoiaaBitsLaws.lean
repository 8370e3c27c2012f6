/- known1, and the walks of the four bit laws. -/
import Derived.Test.YtmdhiigonlnoiaaBits4
namespace Go.Proofs.Ytmdhiigonlnoiaa
open Go.RowKit Go.Waf
set_option maxRecDepth 100000
set_option linter.unusedVariables false
attribute [local go_sem] mask1_u64 mask1_u8

theorem WrAt.fr {F : Nat → Prop} {w w' : World} {B g : Nat} {v : Value} {bs : List Bool} (h : WrAt w B g v bs) (hf : Fr F w w') (h1 : ¬ F g) (h2 : ∀ k, v.ownBlock = some k → ¬ F k) : WrAt w' B g v bs :=
  ⟨by rw [hf.block g (Array.getElem?_eq_some_iff.1 h.blk).1 h1]; exact h.blk, hf.owns h.row h2, h.base, h.ne⟩
theorem RdAt.fr {F : Nat → Prop} {w w' : World} {B g : Nat} {v : Value} {xs : List Int} {p : Nat} (h : RdAt w B g v xs p) (hf : Fr F w w') (h1 : ¬ F g) (h2 : ∀ k, v.ownBlock = some k → ¬ F k) : RdAt w' B g v xs p :=
  ⟨by rw [hf.block g (Array.getElem?_eq_some_iff.1 h.blk).1 h1]; exact h.blk, hf.owns h.row h2, h.base, h.ne, h.pos, h.few, h.byts⟩
theorem WrAt.keep {w w' : World} {B g C : Nat} {v : Value} {bs : List Bool} (h : WrAt w B g v bs) (hb : Below C w w') (hC : w.heap.size ≤ C) : WrAt w' B g v bs :=
  h.fr (F := fun _ => False) (Fr.of_new (hb.mono hC)) (fun h => h) (fun _ _ h => h)
theorem RdAt.keep {w w' : World} {B g C : Nat} {v : Value} {xs : List Int} {p : Nat} (h : RdAt w B g v xs p) (hb : Below C w w') (hC : w.heap.size ≤ C) : RdAt w' B g v xs p :=
  h.fr (F := fun _ => False) (Fr.of_new (hb.mono hC)) (fun h => h) (fun _ _ h => h)
theorem RdAt.blt {w : World} {B g : Nat} {v : Value} {xs : List Int} {p : Nat} (h : RdAt w B g v xs p) : g < w.heap.size := (Array.getElem?_eq_some_iff.1 h.blk).1
theorem WrAt.blt {w : World} {B g : Nat} {v : Value} {bs : List Bool} (h : WrAt w B g v bs) : g < w.heap.size := (Array.getElem?_eq_some_iff.1 h.blk).1

theorem newW (w : World) : Calls Try.prog 16 #[] w fun e w' => ∃ g, e = .returned (.pointer (some ⟨g, 0, none⟩)) ∧ WrAt w' w.heap.size g (.slice none 0 0) [] ∧ Below w.heap.size w w' :=
  (newWriter_any w).mono fun e w' h => ⟨_, h.1, h.2 ▸ wr_new w _ (Nat.le_refl _), h.2 ▸ (Below.refl _ _).alloc (Nat.le_refl _) _⟩
/-- What a writer may turn lies from B on. -/
theorem put_below {w w' : World} {B g : Nat} {v : Value} {bs : List Bool} (h : WrAt w B g v bs) (hB : B ≤ w.heap.size) (hf : Fr (fun k => k = g ∨ v.ownBlock = some k) w w') : Below B w w' :=
  hf.below hB fun i hi hk => by
    rcases hk with rfl | hk
    · have := h.base; omega
    · have := (h.row.lt i hk).1; omega
theorem get_below {w w' : World} {B g : Nat} {v : Value} {xs : List Int} {p : Nat} (h : RdAt w B g v xs p) (hB : B ≤ w.heap.size) (hf : Fr (fun k => k = g) w w') : Below B w w' :=
  hf.below hB fun i hi hk => by have := h.base; omega
theorem put_call {w : World} {B g : Nat} {v : Value} {bs : List Bool} (h : WrAt w B g v bs) (hB : B ≤ w.heap.size) (x n : Nat) (hn : n ≤ 64) (hl : bs.length ≤ 1000000) (hx : x < 18446744073709551616) :
    Calls Try.prog 17 #[.pointer (some ⟨g, 0, none⟩), .int .u64 x, .int .i64 n] w fun e w' => ∃ v', e = .returned (.bool true) ∧ WrAt w' B g v' (bs ++ bitsN x n) ∧ Below B w w' ∧ (∀ k, v'.ownBlock = some k → v.ownBlock = some k ∨ w.heap.size ≤ k) ∧ Fr (fun k => k = g ∨ v.ownBlock = some k) w w' :=
  (put_yes w B g v bs h x n hn hl hx).mono fun e w' ⟨v', h1, h2, h3, h4⟩ => ⟨v', h1, h2, put_below h hB h4, h3, h4⟩
theorem get_call {w : World} {B g : Nat} {v : Value} {xs : List Int} {p : Nat} (h : RdAt w B g v xs p) (hB : B ≤ w.heap.size) (n : Nat) (hn : n ≤ 64) (hn2 : p + n ≤ 8 * xs.length) :
    Calls Try.prog 24 #[.pointer (some ⟨g, 0, none⟩), .int .i64 n] w fun e w' => e = .returned (.tuple #[.int .u64 (numAt xs p n), .bool true]) ∧ RdAt w' B g v xs (p + n) ∧ Below B w w' :=
  (get_yes w B g v xs p h n hn hn2).mono fun e w' ⟨h1, h2, h3⟩ => ⟨h1, h2, get_below h hB h3⟩

theorem convB {w : World} {v : Value} {n : Nat} {xs : List Int} (hr : Rd w 1 v n (byt xs)) : (convert 33 9 v).run Try.prog w = .ok (.string (strOfNums xs)) w :=
  conv_rd Try.underlying33 Try.underlying5 Try.underlying9 hr

set_option maxHeartbeats 800000 in
theorem known1 (w : World) : Calls Try.prog 15 #[] w fun e w' => e = .returned (.bool true) ∧ Below w.heap.size w w' := by
  go_enter Try.func15, Try.ntmps15
  go_wp2_with fail
  refine (newW _).mono ?_; rintro e w1 ⟨g, rfl, W1, b1⟩
  go_wp2_with fail
  refine (put_call W1 b1.size 5 3 (by omega) (by simp) (by omega)).mono ?_; rintro e w2 ⟨v2, rfl, W2, b2, _, _⟩
  replace b2 := b1.trans b2
  go_wp2_with fail
  refine (put_no _ _ _ _ (by omega)).mono ?_; rintro e w3 ⟨rfl, rfl⟩
  go_wp2_with fail
  refine ownRet_mono (bytes_any _ _ _ _ _ W2 (by decide)) _ ?_
  intro p w3 ho3 b3
  have W3 := Lib.hid (W2.keep b3 (Nat.le_refl _))
  have R3 := Lib.hid (rd_of_owns ho3)
  have B3 := Lib.hid (b2.trans (b3.mono b2.size))
  clear ho3 b3 W2 W1 b2 b1
  go_wp2_with fail
  refine (newReader_any _ _ _ _ R3.out (by decide) (by decide)).mono ?_; rintro e w4 ⟨g4, v4, rfl, r4, b4⟩
  have B4 := Lib.hid (B3.out.trans (b4.mono B3.out.size))
  have HR4 := Lib.hid r4
  have s4 := b4.size
  have HB4 := Lib.hid b4
  have HB3 := Lib.hid B3.out.size
  clear B3 R3 b4 r4
  go_wp2_with fail
  refine (get_call HR4.out s4 3 (by omega) (by decide)).mono ?_; rintro e w5 ⟨rfl, r5, b5⟩
  have e5 : numAt (pack ([] ++ bitsN 5 3)) 0 3 = 5 := by decide +kernel
  rw [e5]
  have W5 := Lib.hid (W3.out.keep (HB4.out.trans b5) (Nat.le_refl _))
  have R5 := Lib.hid r5
  have B5 := Lib.hid (B4.out.trans (b5.mono HB3.out))
  clear HR4 HB4 HB3 B4 W3 r5 b5 e5
  go_wp2_with fail
  refine ownRet_mono (bytes_any _ _ _ _ _ W5.out (by decide)) _ ?_
  intro p6 w6 ho6 b6
  have c6 := convB (rd_of_owns ho6)
  have e6 : pack ([] ++ bitsN 5 3) = [160] := by decide +kernel
  rw [e6] at c6
  have hs : ((strOfNums [160]).toList == [160]) = true := by decide +kernel
  have W6 := Lib.hid (W5.out.keep b6 (Nat.le_refl _))
  have R6 := Lib.hid (R5.out.keep b6 (Nat.le_refl _))
  have B6 := Lib.hid (B5.out.trans (b6.mono B5.out.size))
  clear ho6 e6 W5 R5 B5 b6
  go_wp2_with fail
  refine (len_any _ _ _ _ _ W6.out).mono ?_; rintro e w7 ⟨rfl, rfl⟩
  have e7 : (([] ++ bitsN 5 3 : List Bool).length) = 3 := by decide
  rw [e7]
  clear e7 c6
  go_wp2_with fail
  refine (left_any _ _ _ _ _ _ R6.out).mono ?_; rintro e w8 ⟨rfl, m, rfl⟩
  have e8 : (8 * (pack ([] ++ bitsN 5 3)).length - (0 + 3)) = 5 := by decide +kernel
  rw [e8]
  clear e8
  go_wp2_with fail
  refine (rest_any _ _ _ _ _ _ (R6.out.drewN m)).mono ?_; rintro e w9 ⟨rfl, m2, rfl⟩
  have e9 : restB (pack ([] ++ bitsN 5 3)) (0 + 3) = true := by decide +kernel
  rw [e9]
  go_wp2_with fail
  go_ret
  exact ⟨rfl, below_drewN B6.out _⟩

theorem numAt_drop (xs : List Int) (p n : Nat) (h : p + n ≤ 8 * xs.length) : numAt xs p n = number (((unpack xs).drop p).take n) := by
  unfold numAt
  congr 1
  apply List.ext_getElem?
  intro i
  rw [List.getElem?_map, List.getElem?_take, List.getElem?_drop]
  by_cases hi : i < n
  · rw [if_pos hi, unpack_get _ _ (by omega), List.getElem?_range hi]; rfl
  · rw [if_neg hi, List.getElem?_eq_none (by simp; omega)]; rfl
def ints (xs : List Int) : List Value := xs.map (Value.int .i64)
theorem ownBlock_len (a : Option Addr) (n cap n' cap' : Nat) : (Value.slice a n cap).ownBlock = (Value.slice a n' cap').ownBlock := by cases a <;> rfl
theorem Rd_dropG {w : World} {a : Option Addr} {n cap : Nat} {cs : List Value} (i : Nat) (hi : i ≤ n) (h : Rd w 1 (.slice a n cap) n cs) (hne : cap ≠ i) : Rd w 1 (.slice (a.map fun x => x.add i) (n - i) (cap - i)) (n - i) (cs.drop i) := by
  obtain ⟨hl, a', c, he, h1, h2, h3, h4⟩ := h
  cases he
  refine ⟨by rw [List.length_drop, hl]; omega, _, _, rfl, by omega, by omega, fun ha => ?_, fun hn => ?_⟩
  · cases a with
    | none => have := h3 rfl; have := hl; omega
    | some x => simp at ha
  · obtain ⟨b, off, rfl, hc⟩ := h4 (by omega)
    refine ⟨b, off + i, by simp [Addr.add_lit], fun j u hu => ?_⟩
    rw [List.getElem?_drop] at hu
    rw [Nat.add_assoc]
    exact hc _ _ hu
theorem Rd_dropE {w : World} {a : Option Addr} {n cap : Nat} {cs : List Value} (i : Nat) (hi : i ≤ n) (h : Rd w 1 (.slice a n cap) n cs) (he : cap = i) : Rd w 1 (.slice a (n - i) 0) (n - i) (cs.drop i) := by
  obtain ⟨hl, a', c, he, h1, h2, h3, h4⟩ := h
  cases he
  exact ⟨by rw [List.length_drop, hl]; omega, _, _, rfl, by omega, by omega, fun _ => rfl, fun hn => by omega⟩
theorem ownBlock_add (a : Option Addr) (i n cap n' cap' : Nat) : (Value.slice (a.map fun x => x.add i) n cap).ownBlock = (Value.slice a n' cap').ownBlock := by
  cases a with
  | none => rfl
  | some x => simp only [Option.map_some, Value.ownBlock, Addr.add]; split <;> rfl
theorem ownBlock_slice (b off n cap k : Nat) (h : (Value.slice (some ⟨b, off, none⟩) n cap).ownBlock = some k) : k = b := by
  simpa [Value.ownBlock] using h.symm

set_option maxHeartbeats 1600000 in
theorem bitsRead_walk (a0 : Option Addr) (n0 cap0 : Nat) (xs : List Int) (a1 : Option Addr) (n1 cap1 : Nat) (zs : List Int) (w : World)
    (hr0 : Rd w 1 (.slice a0 n0 cap0) n0 (byt xs)) (hx : ∀ x ∈ xs, 0 ≤ x ∧ x ≤ 255) (hc0 : n0 ≤ cap0) (hc1 : cap0 ≤ 9223372036854775807)
    (hr1 : Rd w 1 (.slice a1 n1 cap1) n1 (ints zs)) (hz : ∀ z ∈ zs, -9223372036854775808 ≤ z ∧ z ≤ 9223372036854775807) (hd0 : n1 ≤ cap1) (hd1 : cap1 ≤ 9223372036854775807) :
    Calls Try.prog 4 #[.slice a0 n0 cap0, .slice a1 n1 cap1] w fun e w' => e = .returned (.bool true) ∧ Below w.heap.size w w' := by
  by_cases hbig : 100 < n0
  · go_enter Try.func4, Try.ntmps4
    go_wp2_with fail
    refine (known1 _).mono ?_; rintro e w1 ⟨rfl, hb1⟩
    go_wp2_with fail
    go_ret
    exact ⟨rfl, hb1⟩
  by_cases hbig1 : 60 < n1
  · go_enter Try.func4, Try.ntmps4
    go_wp2_with fail
    refine (known1 _).mono ?_; rintro e w1 ⟨rfl, hb1⟩
    go_wp2_with fail
    go_ret
    exact ⟨rfl, hb1⟩
  have hlen : xs.length = n0 := by have := hr0.1; simpa [byt] using this
  have hlz : zs.length = n1 := by have := hr1.1; simpa [ints] using this
  have R0 := Lib.hid hr0
  have R1 := Lib.hid hr1
  have HX := Lib.hid hx
  have HZ := Lib.hid hz
  have HL := Lib.hid hlen
  have HLZ := Lib.hid hlz
  clear hr0 hr1 hx hz hlen hlz
  go_enter Try.func4, Try.ntmps4
  go_wp2_with fail
  refine (known1 _).mono ?_; rintro e w1 ⟨rfl, b1⟩
  go_wp2_with fail
  refine (newReader_any _ _ _ xs (R0.out.below b1 (Nat.le_refl _)) (by omega) HX.out).mono ?_; rintro e w2 ⟨g, v, rfl, r2, b2⟩
  have B2 := Lib.hid (b1.trans (b2.mono b1.size))
  have HR2 := Lib.hid r2
  have hgs := r2.blt
  have hgb : w.heap.size ≤ g := Nat.le_trans b1.size r2.base
  have hs1 := b1.size
  have hs2 := b2.size
  clear r2 b2 b1
  go_wp2_with fail
  refine ownRet_mono (runpack_any _ _ _ xs (R0.out.below B2.out (Nat.le_refl _)) (by omega) HX.out) _ ?_
  intro al w3 ho3 b3
  obtain ⟨aa, ac, rfl, ac1, ac2, ac3⟩ := owns_shape ho3
  have R3 := Lib.hid (rd_of_owns ho3)
  have hab : ∀ k, (Value.slice aa (8 * n0) ac).ownBlock = some k → k ≠ g := fun k hk e => by have := (ho3.lt k hk).1; omega
  have B3 := Lib.hid (B2.out.trans (b3.mono B2.out.size))
  have HR3 := Lib.hid (HR2.out.keep b3 (Nat.le_refl _))
  have HAB := Lib.hid hab
  unfold maxLen at ac2
  clear ho3 hab b3 HR2 B2
  go_wp2_with fail
  go_loopw [6, 7] (fun al i wr => ∃ k p aa ac, k ≤ n1 ∧ p ≤ 8 * n0 ∧ 8 * n0 - p ≤ ac ∧ ac ≤ 9223372036854775807 ∧ i = .int .i64 (k : Nat) ∧ al = .slice aa (8 * n0 - p) ac ∧ RdAt wr w1.heap.size g v xs p ∧ Rd wr 1 (.slice aa (8 * n0 - p) ac) (8 * n0 - p) (bls ((unpack xs).drop p)) ∧ (∀ k, (Value.slice aa (8 * n0) ac).ownBlock = some k → k ≠ g) ∧ Below w.heap.size w wr) (fun _ i _ => n1 - (intOf i).toNat)
  case atStart => exact ⟨0, 0, aa, ac, by omega, by omega, by omega, ac2, rfl, rfl, HR3.out, R3.out, HAB.out, B3.out⟩
  case round =>
    obtain ⟨k, p, ab, abc, hk, hp, hpc, hpc2, rfl, rfl, hrr, hra, hne, hb⟩ := hrel
    have hl8 : 8 * xs.length = 8 * n0 := by rw [HL.out]
    by_cases hlt : k < n1
    · have rl := R1.out.below hb (Nat.le_refl _)
      obtain ⟨lb, lo, rfl, hlc⟩ := Rd_at rl (by omega)
      obtain ⟨z, hzk⟩ : ∃ z, zs[k]? = some z := ⟨_, List.getElem?_eq_getElem (by rw [HLZ.out]; exact hlt)⟩
      have hzb := HZ.out z (List.mem_of_getElem? hzk)
      have lcell : wr.cell? ⟨lb, lo + k, none⟩ = some (.int .i64 z) := hlc k _ (by rw [ints, List.getElem?_map, hzk]; rfl)
      have hsz := hb.size
      have HRR := Lib.hid hrr
      have HRA := Lib.hid hra
      have HNE := Lib.hid hne
      have HB := Lib.hid hb
      have HL8 := Lib.hid hl8
      obtain ⟨N, hN⟩ : ∃ N, N = 8 * n0 - p := ⟨_, rfl⟩
      have HN := Lib.hid hN
      rw [← hN]
      clear rl hlc hrr hra hne hb hl8 hN hzk
      by_cases hok : 0 ≤ z ∧ z ≤ 64 ∧ z ≤ N
      · obtain ⟨n, rfl⟩ : ∃ n : Nat, z = (n : Int) := ⟨z.toNat, by omega⟩
        have hn64 : n ≤ 64 := by omega
        have hnN : n ≤ N := by omega
        have hNc : N ≤ abc := by rw [HN.out]; exact hpc
        have hnc : n ≤ abc := by omega
        have q1 : decide (n ≤ N) = true := decide_eq_true hnN
        go_wp2_with fail
        refine (get_yes _ _ _ _ _ _ HRR.out n hn64 (by have := HN.out; have := HL8.out; omega)).mono ?_; rintro e w4 ⟨rfl, r4, f4⟩
        obtain ⟨Y, hY⟩ : ∃ Y, Y = numAt xs p n := ⟨_, rfl⟩
        rw [← hY]
        have HR4 := Lib.hid r4
        have HF4 := Lib.hid f4
        have HY := Lib.hid hY
        have hY64 : numAt xs p n = number (((unpack xs).drop p).take n) := numAt_drop xs p n (by have := HN.out; have := HL8.out; omega)
        have ht : (bls ((unpack xs).drop p)).take (n * 1) = bls (((unpack xs).drop p).take n) := by simp [bls, List.map_take]
        have r4' := HF4.out.rd (HRA.out.take n abc (by rw [← HN.out]; exact hnN) hnc (Nat.le_refl _)) (fun k hk e => HNE.out k (by rw [← hk]; exact ownBlock_len _ _ _ _ _) e)
        rw [ht] at r4'
        have R4 := Lib.hid r4'
        clear r4 f4 hY lcell ht r4'
        go_wp2_with fail
        refine (rnumber_any _ _ _ _ R4.out hn64).mono ?_; rintro e w5 ⟨rfl, rfl⟩
        rw [← hY64, ← HY.out]
        have hdr : (bls ((unpack xs).drop p)).drop n = bls ((unpack xs).drop (p + n)) := by simp [bls, List.map_drop, List.drop_drop]
        have ra4 := HF4.out.rd HRA.out (fun k hk e => HNE.out k (by rw [← hk]; exact ownBlock_len _ _ _ _ _) e)
        rw [← HN.out] at ra4
        have d1 := Rd_dropE n hnN ra4
        have d2 := Rd_dropG n hnN ra4
        rw [hdr] at d1 d2
        have D1 := Lib.hid d1
        have D2 := Lib.hid d2
        clear hdr ra4 d1 d2 hY64 R4
        go_upto_region 20 with fail
        go_cut [6] (fun s wx => wx = w4 ∧ ∃ ab' ac', s = .slice ab' (N - n) ac' ∧ N - n ≤ ac' ∧ ac' ≤ 9223372036854775807 ∧ Rd w4 1 (.slice ab' (N - n) ac') (N - n) (bls ((unpack xs).drop (p + n))) ∧ (∀ k, (Value.slice ab' (8 * n0) ac').ownBlock = some k → k ≠ g))
        case first =>
          go_wp2_with fail
          · go_meet
            exact ⟨rfl, ab, 0, rfl, by omega, by omega, D1.out (by assumption), fun k hk e => HNE.out k (by rw [← hk]; exact ownBlock_len _ _ _ _ _) e⟩
          · go_meet
            exact ⟨rfl, _, _, rfl, by omega, by omega, D2.out (by assumption), fun k hk e => HNE.out k (by rw [← hk]; exact (ownBlock_add _ _ _ _ _ _).symm) e⟩
        case rest =>
          obtain ⟨rfl, ab', ac', rfl, hac', hac2, ra5, hne5⟩ := hcut
          have RA5 := Lib.hid ra5
          have HNE5 := Lib.hid hne5
          have L5 := Lib.hid (left_any _ _ _ _ _ _ HR4.out)
          rw [show 8 * xs.length - (p + n) = N - n by rw [HL8.out, HN.out]; omega] at L5
          obtain ⟨T, hT⟩ : ∃ T, T = N - n := ⟨_, rfl⟩
          have hT2 : 8 * xs.length - (p + n) = T := by rw [hT, HL8.out, HN.out]; omega
          have HT := Lib.hid hT
          have HT2 := Lib.hid hT2
          rw [← hT] at L5 RA5 hac' ⊢
          have B5 := Lib.hid ((get_below HRR.out (by have := HRR.out.blt; have := HRR.out.base; omega) HF4.out).mono hs1)
          clear ra5 hne5 hT hT2
          by_cases h8 : T < 8
          · obtain ⟨Z, hZ⟩ : ∃ Z, Z = numAt xs (p + n) T := ⟨_, rfl⟩
            have hS : restB xs (p + n) = ((Z : Int) == 0) := by
              rw [restB, HT2.out, ← hZ, decide_eq_true h8, Bool.true_and, Bool.eq_iff_iff]; simp
            have S5 := Lib.hid (fun m => rest_any _ _ _ _ _ _ (HR4.out.drewN m))
            rw [hS] at S5
            have hZ2 : Z = number ((unpack xs).drop (p + n)) := by
              rw [hZ, numAt_drop _ _ _ (by have := HT2.out; have := HL8.out; have := HN.out; omega), List.take_of_length_le (by rw [List.length_drop, unpack_length]; have := HT2.out; omega)]
            have HZ2 := Lib.hid hZ2
            clear hZ hS hZ2
            go_wp2_with (first | (go_at_call 26; refine L5.out.mono ?_; rintro e w6 ⟨rfl, m6, rfl⟩) | (go_at_call 27; refine (S5.out _).mono ?_; rintro e w7 ⟨rfl, m7, rfl⟩) | (go_at_call 25; refine (rnumber_any _ _ _ _ (show Rd (wc.drewN (m6 + m7)) 1 _ _ _ from RA5.out) (by omega)).mono ?_; rintro e w8 ⟨rfl, rfl⟩; rw [← HZ2.out]))
            go_roundw
            case rel =>
              have hTT : 8 * n0 - (p + n) = T := by rw [← HT2.out, HL8.out]
              refine ⟨k + 1, p + n, ab', ac', by omega, by have := HN.out; omega, by rw [hTT]; exact hac', hac2, by congr 1, by rw [hTT], HR4.out.drewN _, ?_, HNE5.out, below_drewN (HB.out.trans B5.out) _⟩
              rw [hTT]; exact RA5.out
            case measure => simp [intOf]; omega
          · have hS : restB xs (p + n) = false := by rw [restB, HT2.out, decide_eq_false h8, Bool.false_and]
            have S5 := Lib.hid (fun m => rest_any _ _ _ _ _ _ (HR4.out.drewN m))
            rw [hS] at S5
            clear hS
            go_wp2_with (first | (go_at_call 26; refine L5.out.mono ?_; rintro e w6 ⟨rfl, m6, rfl⟩) | (go_at_call 27; refine (S5.out _).mono ?_; rintro e w7 ⟨rfl, m7, rfl⟩))
            go_roundw
            case rel =>
              have hTT : 8 * n0 - (p + n) = T := by rw [← HT2.out, HL8.out]
              refine ⟨k + 1, p + n, ab', ac', by omega, by have := HN.out; omega, by rw [hTT]; exact hac', hac2, by congr 1, by rw [hTT], HR4.out.drewN _, ?_, HNE5.out, below_drewN (HB.out.trans B5.out) _⟩
              rw [hTT]; exact RA5.out
            case measure => simp [intOf]; omega
      · have L4 : Calls Try.prog 24 #[.pointer (some ⟨g, 0, none⟩), .int .i64 z] wr fun e w' => e = .returned (.tuple #[.int .u64 0, .bool false]) ∧ ∃ m, w' = wr.drewN m :=
          get_no _ _ _ _ _ _ HRR.out z (by have := HN.out; have := HL8.out; omega)
        have C4 := Lib.hid L4
        have hNc : N ≤ abc := by rw [HN.out]; exact hpc
        clear L4
        have hcases : (decide (0 ≤ z) = false) ∨ (decide (0 ≤ z) = true ∧ decide (z ≤ 64) = false) ∨ (decide (0 ≤ z) = true ∧ decide (z ≤ 64) = true ∧ decide (z ≤ N) = false) := by
          by_cases h1 : 0 ≤ z
          · by_cases h2 : z ≤ 64
            · exact .inr (.inr ⟨decide_eq_true h1, decide_eq_true h2, decide_eq_false (by omega)⟩)
            · exact .inr (.inl ⟨decide_eq_true h1, decide_eq_false h2⟩)
          · exact .inl (decide_eq_false h1)
        rcases hcases with h1 | ⟨h1, h2⟩ | ⟨h1, h2, h3⟩
        all_goals
          go_wp2_with (go_at_call 24; refine C4.out.mono ?_; rintro e w4 ⟨rfl, m4, rfl⟩)
          go_roundw
          case rel => exact ⟨k + 1, p, ab, abc, by omega, hp, hpc, hpc2, by congr 1, by rw [HN.out], HRR.out.drewN _, HRA.out, HNE.out, below_drewN HB.out _⟩
          case measure => simp [intOf]; omega
    · obtain rfl : k = n1 := by omega
      have L5 := Lib.hid (left_any _ _ _ _ _ _ hrr)
      rw [hl8] at L5
      have HB := Lib.hid hb
      clear hrr hra hne hb hl8
      generalize 8 * n0 - p = T at *
      go_wp2_with (go_at_call 26; refine L5.out.mono ?_; rintro e w6 ⟨rfl, m6, rfl⟩)
      go_ret
      exact ⟨rfl, below_drewN HB.out _⟩

theorem bitsRead_law (a0 : Option Addr) (len0 cap0 : Nat) (z0 : List Int) (a1 : Option Addr) (len1 cap1 : Nat) (z1 : List Int) (w : World) (w0 : RowOf .u8 w a0 len0 cap0 z0) (w1 : RowOf .i64 w a1 len1 cap1 z1) :
    Calls Try.prog 4 #[.slice a0 len0 cap0, .slice a1 len1 cap1] w fun e w' => e = .returned (.bool true) ∧ Below w.heap.size w w' :=
  bitsRead_walk a0 len0 cap0 (z0.take len0) a1 len1 cap1 (z1.take len1) w w0.rd (fun x hx => rng_u8 (w0.wf x hx)) w0.bounds.1 w0.bounds.2 w1.rd (fun x hx => rng_i64 (w1.wf x hx)) w1.bounds.1 w1.bounds.2
end Go.Proofs.Ytmdhiigonlnoiaa
