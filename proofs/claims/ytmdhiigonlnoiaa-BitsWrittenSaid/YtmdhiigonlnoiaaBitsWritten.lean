/- The walk of BitsWritten. -/
import Derived.Test.YtmdhiigonlnoiaaBitsBack
import Derived.Deep.RegionWith
namespace Go.Proofs.Ytmdhiigonlnoiaa
open Go.RowKit Go.Waf
set_option maxRecDepth 100000
set_option linter.unusedVariables false
attribute [local go_sem] mask1_u64 mask1_u8

def okN (n : Int) : Bool := decide (0 ≤ n) && decide (n ≤ 64)
/-- The bits of the first k that can be written. -/
def okBits (V N : Nat → Int) (k : Nat) : List Bool := (List.range k).flatMap fun j => if okN (N j) then bitsN (V j).toNat (N j).toNat else []
theorem okBits_succ (V N : Nat → Int) (k : Nat) : okBits V N (k + 1) = okBits V N k ++ (if okN (N k) then bitsN (V k).toNat (N k).toNat else []) := by simp [okBits, List.range_succ]
theorem okBits_len (V N : Nat → Int) (k : Nat) : (okBits V N k).length ≤ 64 * k := by
  induction k with
  | zero => simp [okBits]
  | succ k ih =>
    rw [okBits_succ, List.length_append]
    split
    · rename_i h; rw [bitsN_length]; unfold okN at h; simp at h; omega
    · simp; omega

set_option maxHeartbeats 1600000 in
theorem bitsWritten_walk (a0 : Option Addr) (n0 cap0 : Nat) (V N : Nat → Int) (w : World) (hp : PairsAt w .u64 .i64 a0 n0 cap0 V N) :
    Calls Try.prog 3 #[.slice a0 n0 cap0] w fun e w' => e = .returned (.bool true) ∧ Below w.heap.size w w' := by
  have hc0 := hp.le
  have hc1 := hp.cap63
  by_cases hbig : 40 < n0
  · go_enter Try.func3, Try.ntmps3
    go_wp2_with fail
    refine (known1 _).mono ?_; rintro e w1 ⟨rfl, hb1⟩
    go_wp2_with fail
    go_ret
    exact ⟨rfl, hb1⟩
  have HP := Lib.hid hp
  clear hp
  go_enter Try.func3, Try.ntmps3
  go_wp2_with fail
  refine (known1 _).mono ?_; rintro e w1 ⟨rfl, b1⟩
  go_wp2_with fail
  refine (newW _).mono ?_; rintro e w2 ⟨g, rfl, W2, b2⟩
  have hs1 := b1.size
  have hs2 := b2.size
  have B2 := Lib.hid (b1.trans (b2.mono b1.size))
  have HW2 := Lib.hid W2
  clear b1 b2 W2
  go_wp2_with fail
  go_loopw [4, 5] (fun nv i wr => ∃ k v bs, k ≤ n0 ∧ bs = okBits V N k ∧ i = .int .i64 (k : Nat) ∧ WrAt wr w1.heap.size g v bs ∧ wr.ownsRow w1.heap.size 4 1 nv bs.length (bls bs) ∧ nv.ownBlock ≠ some g ∧ (∀ b, nv.ownBlock = some b → v.ownBlock ≠ some b) ∧ Below w.heap.size w wr ∧ w1.heap.size ≤ wr.heap.size) (fun _ i _ => n0 - (intOf i).toNat)
  case atStart => exact ⟨0, _, _, by omega, rfl, rfl, HW2.out, World.ownsRow_nil _ _ _ _, by simp [Value.ownBlock], fun b hb => by simp [Value.ownBlock] at hb, B2.out, hs2⟩
  case round =>
    obtain ⟨k, v, bs, hk, hbs, rfl, hwr, hnv, hd1, hd2, hb, hsr⟩ := hrel
    have hbl : bs.length ≤ 64 * k := by rw [hbs]; exact okBits_len _ _ _
    obtain ⟨na, ncap, rfl, nc1, nc2, nc3⟩ := owns_shape hnv
    unfold maxLen at nc2
    by_cases hlt : k < n0
    · obtain ⟨lb, lo, rfl, _, _⟩ := HP.out.cells (by omega)
      have hlc : ∀ w', Below w.heap.size w w' → w'.cell? ⟨lb, lo + k * 2, none⟩ = some (.int .u64 (V k)) ∧ w'.cell? ⟨lb, lo + k * 2 + 1, none⟩ = some (.int .i64 (N k)) := fun w' hw' => by
        obtain ⟨lb', lo', he, _, hc⟩ := (HP.out.below hw' (Nat.le_refl _)).cells (by omega)
        cases he
        exact hc k hlt
      obtain ⟨lc0, lc1⟩ := hlc wr hb
      have hwf := HP.out.wf k hlt
      have hV := rng_u64 hwf.1
      have hN := rng_i64 hwf.2
      obtain ⟨X, hX⟩ := Int.eq_ofNat_of_zero_le hV.1
      rw [hX] at lc0 hV
      have hlc0 : ∀ w', Below w.heap.size w w' → w'.cell? ⟨lb, lo + k * 2, none⟩ = some (.int .u64 (X : Int)) := fun w' hw' => by rw [(hlc w' hw').1, hX]
      have hsucc := okBits_succ V N k
      rw [← hbs, hX] at hsucc
      obtain ⟨n, hn⟩ : ∃ n, n = N k := ⟨_, rfl⟩
      rw [← hn] at lc1 hN hsucc
      have HW := Lib.hid hwr
      have HNV := Lib.hid hnv
      have HD1 := Lib.hid hd1
      have HD2 := Lib.hid hd2
      have HB := Lib.hid hb
      have HS := Lib.hid hsucc
      have HLC := Lib.hid hlc0
      clear hlc hlc0 hwr hnv hd1 hd2 hb hwf hsucc hX hn hbs
      by_cases hok : 0 ≤ n ∧ n ≤ 64
      · obtain ⟨m, rfl⟩ : ∃ m : Nat, n = (m : Int) := ⟨n.toNat, by omega⟩
        have hm : m ≤ 64 := by omega
        have hot : okN (m : Int) = true := by unfold okN; rw [decide_eq_true hok.1, decide_eq_true hok.2]; rfl
        have hsx : okBits V N (k + 1) = bs ++ bitsN X m := by rw [HS.out, hot]; simp
        have HSX := Lib.hid hsx
        have C := Lib.hid (put_call HW.out hsr X m hm (by omega) (by omega))
        clear hsx hot
        go_wp2_with (go_at_call 17; refine C.out.mono ?_; rintro e w4 ⟨v5, rfl, W4, b4, fr4, F4⟩; have lc4 := HLC.out w4 (HB.out.trans (b4.mono hs1)))
        refine ownRet_mono (rbits_any _ X m (by omega) hm) _ ?_
        intro c w5 hoc b5
        have hs4 := b4.size
        have hs5 := b5.size
        have RC := Lib.hid (rd_of_owns hoc)
        have N4 := Lib.hid (F4.owns HNV.out (fun b hb hF => by rcases hF with rfl | hF; exact HD1.out hb; exact HD2.out b hb hF))
        have N5 := Lib.hid ((Fr.of_new (F := fun _ => False) b5).owns N4.out (fun _ _ h => h))
        have W5 := Lib.hid (W4.keep b5 (Nat.le_refl _))
        have HB5 := Lib.hid (HB.out.trans ((b4.trans (b5.mono (Nat.le_trans hsr hs4))).mono hs1))
        have E2 : ∀ b, (Value.slice na bs.length ncap).ownBlock = some b → v5.ownBlock ≠ some b := fun b hb e => by
          rcases fr4 b e with h | h
          · exact HD2.out b hb h
          · have := (HNV.out.lt b hb).2; omega
        have HE2 := Lib.hid E2
        clear E2 hoc b5 b4 W4 fr4 F4 N4 lc4
        go_upto_region 16 with (at_builtin; refine app_own2 _ elemBool rfl _ _ rfl w1.heap.size _ bs.length (bls bs) rfl N5.out c m (bls (bitsN X m)) rfl RC.out (one_bls _) (by simp only [maxLen]; omega) (by omega) (by omega) ?_; intro y w6 ho6 hg6 hfr6; obtain ⟨ya, ycap, rfl, yc1, yc2, yc3⟩ := owns_shape ho6)
        unfold maxLen at yc2
        have hs6 := hg6.size
        have hg5 := W5.out.blt
        have W16 := Lib.hid (W5.out.fr (Fr.of_grown (F := fun i => (Value.slice na bs.length ncap).ownBlock = some i) hg6 (fun k hk => hk)) HD1.out (fun b hb hF => HE2.out b hF hb))
        have hbm : bls bs ++ bls (bitsN X m) = bls (bs ++ bitsN X m) := by simp [bls]
        have hlm : (bs ++ bitsN X m).length = bs.length + m := by rw [List.length_append, bitsN_length]
        rw [hbm] at ho6
        have R16 := Lib.hid (show w6.ownsRow w1.heap.size 4 1 (.slice ya (bs.length + m) ycap) (bs ++ bitsN X m).length (bls (bs ++ bitsN X m)) by rw [hlm]; exact ho6)
        have HLM := Lib.hid hlm
        have B16 : Hid (Below w.heap.size w w6) := Lib.hid (below_of_grown HB5.out HB5.out.size N5.out hs1 rfl hg6)
        have d1 : (Value.slice ya (bs.length + m) ycap).ownBlock ≠ some g := fun e => by
          rcases hfr6 g e with h | h
          · exact HD1.out h
          · omega
        have d2 : ∀ b, (Value.slice ya (bs.length + m) ycap).ownBlock = some b → v5.ownBlock ≠ some b := fun b hb e => by
          have := (W5.out.row.lt b e).2
          rcases hfr6 b hb with h | h
          · exact HE2.out b h e
          · omega
        have D1 := Lib.hid d1
        have D2 := Lib.hid d2
        have hsX : w1.heap.size ≤ w6.heap.size := by omega
        have hlx : (bs ++ bitsN X m).length ≤ 3000 := by rw [hlm]; omega
        have lenx : (((bs ++ bitsN X m).length : Nat) : Int) = ((bs.length + m : Nat) : Int) := by rw [hlm]
        have LEN := Lib.hid lenx
        clear ho6 hg6 hfr6 d1 d2 hbm hlm lenx
        have B0 : Below w6.heap.size w6 w6.drew := Below.drew (Below.refl _ _)
        have WD : WrAt w6.drew w1.heap.size g v5 (bs ++ bitsN X m) := W16.out.keep B0 (Nat.le_refl _)
        have HWD := Lib.hid WD
        have CB0 : ∀ W, Below w6.heap.size w6 W → Calls Try.prog 20 #[.pointer (some ⟨g, 0, none⟩)] W fun e w3 => ∃ p, e = .returned p ∧ (∀ w4, Below w3.heap.size w3 w4 → (convert 33 9 p).run Try.prog w4 = .ok (.string (strOfNums (pack (bs ++ bitsN X m)))) w4) ∧ Below w6.heap.size w6 w3 ∧ Below W.heap.size W w3 := by
          intro W hW
          refine ownRet_mono (bytes_any _ _ _ _ _ (W16.out.keep hW (Nat.le_refl _)) (by omega)) _ ?_
          intro p w3 ho3 hb3
          exact ⟨p, rfl, fun w4 h4 => convB ((rd_of_owns ho3).below h4 (Nat.le_refl _)), hW.trans (hb3.mono hW.size), hb3⟩
        have CP0 : ∀ W, Below w6.heap.size w6 W → Calls Try.prog 21 #[.slice ya (bs.length + m) ycap] W fun e w3 => ∃ p, e = .returned p ∧ (∀ w4, Below w3.heap.size w3 w4 → (convert 33 9 p).run Try.prog w4 = .ok (.string (strOfNums (pack (bs ++ bitsN X m)))) w4) ∧ Below w6.heap.size w6 w3 ∧ Below W.heap.size W w3 := by
          intro W hW
          refine ownRet_mono (rpack_any _ _ _ _ ((rd_of_owns R16.out).below hW (Nat.le_refl _)) (by omega)) _ ?_
          intro p w3 ho3 hb3
          exact ⟨p, rfl, fun w4 h4 => convB ((rd_of_owns ho3).below h4 (Nat.le_refl _)), hW.trans (hb3.mono hW.size), hb3⟩
        have CB := Lib.hid CB0
        have CP := Lib.hid CP0
        have HB0 := Lib.hid B0
        clear CB0 CP0 B0 WD
        have LN0 : Calls Try.prog 19 #[.pointer (some ⟨g, 0, none⟩)] w6.drew fun e w' => e = .returned (.int .i64 ((bs.length + m : Nat) : Int)) ∧ w6.drew = w' := by
          have := len_any _ _ _ _ _ HWD.out
          rw [HLM.out] at this; exact this
        have LN := Lib.hid LN0
        clear LN0
        go_region_with (first | (go_at_call 19; refine LN.out.mono ?_; rintro e w7 ⟨rfl, rfl⟩) | (go_at_call 20; refine (CB.out _ (by first | exact bq | exact HB0.out)).mono ?_; rintro e w3 ⟨p, rfl, hcp, bp, bpq⟩; have cp := hcp w3 (Below.refl _ _); try have cq2 := hcq w3 bpq) | (go_at_call 21; refine (CP.out _ (by first | exact bp | exact HB0.out)).mono ?_; rintro e wq ⟨q, rfl, hcq, bq, bqp⟩; have cq := hcq wq (Below.refl _ _); try have cp2 := hcp wq bqp))
        all_goals
          go_wp2_with fail
          go_roundw
          case rel =>
            first
              | exact ⟨k + 1, v5, bs ++ bitsN X m, by omega, HSX.out.symm, by congr 1, W16.out.keep bq (Nat.le_refl _), (Fr.of_new (F := fun _ => False) bq).owns R16.out (fun _ _ h => h), D1.out, D2.out, B16.out.trans (bq.mono B16.out.size), Nat.le_trans hsX bq.size⟩
              | exact ⟨k + 1, v5, bs ++ bitsN X m, by omega, HSX.out.symm, by congr 1, W16.out.keep bp (Nat.le_refl _), (Fr.of_new (F := fun _ => False) bp).owns R16.out (fun _ _ h => h), D1.out, D2.out, B16.out.trans (bp.mono B16.out.size), Nat.le_trans hsX bp.size⟩
          case measure => simp [intOf]; omega
      · have hof : okN n = false := by unfold okN; by_cases h1 : 0 ≤ n; (rw [decide_eq_false (show ¬ n ≤ 64 by omega)]; simp); (rw [decide_eq_false h1]; rfl)
        have hsx : okBits V N (k + 1) = bs := by rw [HS.out, hof]; simp
        have HSX := Lib.hid hsx
        have PN := Lib.hid (put_no wr (.pointer (some ⟨g, 0, none⟩)) (X : Int) n (by omega))
        have hcases : (decide (0 ≤ n) = false) ∨ (decide (0 ≤ n) = true ∧ decide (n ≤ 64) = false) := by
          by_cases h1 : 0 ≤ n
          · exact .inr ⟨decide_eq_true h1, decide_eq_false (by omega)⟩
          · exact .inl (decide_eq_false h1)
        have W16 := Lib.hid HW.out
        have R16 := Lib.hid HNV.out
        have B16 := Lib.hid HB.out
        have D1 := Lib.hid HD1.out
        have D2 := Lib.hid HD2.out
        have hsX := hsr
        clear hsx hof
        rcases hcases with h1 | ⟨h1, h2⟩
        all_goals
          go_upto_region 16 with (go_at_call 17; refine PN.out.mono ?_; rintro e wp ⟨rfl, rfl⟩)
          have B0 : Below wr.heap.size wr wr.drew := Below.drew (Below.refl _ _)
          have WD : WrAt wr.drew w1.heap.size g v bs := W16.out.keep B0 (Nat.le_refl _)
          have HWD := Lib.hid WD
          have CB0 : ∀ W, Below wr.heap.size wr W → Calls Try.prog 20 #[.pointer (some ⟨g, 0, none⟩)] W fun e w3 => ∃ p, e = .returned p ∧ (∀ w4, Below w3.heap.size w3 w4 → (convert 33 9 p).run Try.prog w4 = .ok (.string (strOfNums (pack bs))) w4) ∧ Below wr.heap.size wr w3 ∧ Below W.heap.size W w3 := by
            intro W hW
            refine ownRet_mono (bytes_any _ _ _ _ _ (W16.out.keep hW (Nat.le_refl _)) (by omega)) _ ?_
            intro p w3 ho3 hb3
            exact ⟨p, rfl, fun w4 h4 => convB ((rd_of_owns ho3).below h4 (Nat.le_refl _)), hW.trans (hb3.mono hW.size), hb3⟩
          have CP0 : ∀ W, Below wr.heap.size wr W → Calls Try.prog 21 #[.slice na bs.length ncap] W fun e w3 => ∃ p, e = .returned p ∧ (∀ w4, Below w3.heap.size w3 w4 → (convert 33 9 p).run Try.prog w4 = .ok (.string (strOfNums (pack bs))) w4) ∧ Below wr.heap.size wr w3 ∧ Below W.heap.size W w3 := by
            intro W hW
            refine ownRet_mono (rpack_any _ _ _ _ ((rd_of_owns R16.out).below hW (Nat.le_refl _)) (by omega)) _ ?_
            intro p w3 ho3 hb3
            exact ⟨p, rfl, fun w4 h4 => convB ((rd_of_owns ho3).below h4 (Nat.le_refl _)), hW.trans (hb3.mono hW.size), hb3⟩
          have CB := Lib.hid CB0
          have CP := Lib.hid CP0
          have HB0 := Lib.hid B0
          clear CB0 CP0 B0 WD
          go_region_with (first | (go_at_call 19; refine (len_any _ _ _ _ _ HWD.out).mono ?_; rintro e w7 ⟨rfl, rfl⟩) | (go_at_call 20; refine (CB.out _ (by first | exact bq | exact HB0.out)).mono ?_; rintro e w3 ⟨p, rfl, hcp, bp, bpq⟩; have cp := hcp w3 (Below.refl _ _); try have cq2 := hcq w3 bpq) | (go_at_call 21; refine (CP.out _ (by first | exact bp | exact HB0.out)).mono ?_; rintro e wq ⟨q, rfl, hcq, bq, bqp⟩; have cq := hcq wq (Below.refl _ _); try have cp2 := hcp wq bqp))
          all_goals
            go_wp2_with fail
            go_roundw
            case rel =>
              first
                | exact ⟨k + 1, v, bs, by omega, HSX.out.symm, by congr 1, W16.out.keep bq (Nat.le_refl _), (Fr.of_new (F := fun _ => False) bq).owns R16.out (fun _ _ h => h), D1.out, D2.out, B16.out.trans (bq.mono B16.out.size), Nat.le_trans hsX bq.size⟩
                | exact ⟨k + 1, v, bs, by omega, HSX.out.symm, by congr 1, W16.out.keep bp (Nat.le_refl _), (Fr.of_new (F := fun _ => False) bp).owns R16.out (fun _ _ h => h), D1.out, D2.out, B16.out.trans (bp.mono B16.out.size), Nat.le_trans hsX bp.size⟩
            case measure => simp [intOf]; omega
    · obtain rfl : k = n0 := by omega
      have LN := Lib.hid (len_any _ _ _ _ _ hwr)
      have HB := Lib.hid hb
      clear hwr hnv hd1 hd2 hb hbs
      go_wp2_with (go_at_call 19; refine LN.out.mono ?_; rintro e w7 ⟨rfl, rfl⟩)
      go_ret
      exact ⟨rfl, HB.out⟩

theorem bitsWritten_law (a0 : Option Addr) (len0 cap0 : Nat) (V N : Nat → Int) (w : World) (w0 : PairsAt w .u64 .i64 a0 len0 cap0 V N) :
    Calls Try.prog 3 #[.slice a0 len0 cap0] w fun e w' => e = .returned (.bool true) ∧ Below w.heap.size w w' :=
  bitsWritten_walk a0 len0 cap0 V N w w0
end Go.Proofs.Ytmdhiigonlnoiaa
