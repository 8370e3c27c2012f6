/- The contract of the reference's Heights. -/
import Derived.Test.YtlnldkciiphidaaVerify6
import Derived.Test.YtlnldkciiphidaaVerify3
import Derived.Test.YtlnldkciiphidaaMem2
namespace Go.Proofs.Ytlnldkciiphidaa
open Go.RowKit Go.Waf
set_option maxRecDepth 100000
set_option linter.unusedVariables false

theorem rcheck_good (w : World) (a : Option Addr) (n cap : Nat) (V N : Nat → Int) (hp : PairsAt w .i64 .i32 a n cap V N) (hO : Okay V N n) :
    Calls Try.prog 8 #[.slice a n cap] w fun e w' => e = .returned (.int .i64 (-1)) ∧ Below w.heap.size w w' :=
  (rcheck_any w a n cap V N hp).mono fun e w' ⟨he, hb⟩ => ⟨by rw [he, if_neg (by rw [hO.2]; omega), if_neg (by have := hO.1; omega)], hb⟩
theorem rcheck_ill (w : World) (a : Option Addr) (n cap : Nat) (V N : Nat → Int) (hp : PairsAt w .i64 .i32 a n cap V N) (hO : ¬ Okay V N n) :
    Calls Try.prog 8 #[.slice a n cap] w fun e w' => (∃ x : Nat, e = .returned (.int .i64 (x : Int))) ∧ Below w.heap.size w w' :=
  (rcheck_any w a n cap V N hp).mono fun e w' ⟨he, hb⟩ => ⟨by
    by_cases h : firstBad V N n < n
    · exact ⟨_, by rw [he, if_pos h]⟩
    · have := firstBad_le V N n
      have h0 : n = 0 := by
        rcases Nat.eq_zero_or_pos n with h0 | h0
        · exact h0
        · exact absurd ⟨h0, by omega⟩ hO
      exact ⟨0, by rw [he, if_neg h, if_pos h0]; rfl⟩, hb⟩
theorem infoInt : ∃ i, (Try.prog).info? 3 = some i ∧ i.zero = some (.int .i64 0) ∧ i.size = 1 ∧ i.bytes = 8 := by
  obtain ⟨i, z, h1, h2, h3, h4, h5⟩ := elemInt.info
  refine ⟨i, h1, ?_, h3, h4⟩
  have e : ((Try.prog).info? 3).map (fun i => i.zero) = some (some (.int .i64 0)) := by kernel_rfl
  rw [h1] at e
  simpa using e
theorem madeZerosI (m : Nat) : (madeCells (Value.int .i64 0).cells (m * 1)).toList = ints (List.replicate m 0) := by
  apply List.ext_getElem?
  intro i
  simp [madeCells, Value.cells, ints]
  by_cases h : i < m
  · simp [h, Nat.mod_one]
  · simp [h]
def hf (hs : List Int) (i : Nat) : Int := hs.getD i (-1)
theorem hf_set (hs : List Int) (t : Nat) (v : Int) (ht : t < hs.length) : hf (hs.set t v) = upd (hf hs) t v := by
  funext i
  unfold hf upd
  by_cases h : i = t
  · subst h; simp [ht]
  · simp [List.getD, h, Ne.symm h]
theorem hf_get (hs : List Int) (i : Nat) (h : i < hs.length) : hs.getD i 0 = hf hs i := by simp [hf, List.getD, h]
theorem hf_list (hs : List Int) (n : Nat) (hl : hs.length = n) : hs = (List.range n).map (hf hs) := by
  apply List.ext_getElem?
  intro i
  by_cases h : i < n
  · simp [h, hf, List.getD, show i < hs.length by omega]
  · simp [h, show ¬ i < hs.length by omega]
def minus (n k : Nat) : List Int := List.replicate k (-1) ++ List.replicate (n - k) 0
theorem minus_length (n k : Nat) (h : k ≤ n) : (minus n k).length = n := by simp [minus]; omega
theorem minus_set (n k : Nat) (h : k < n) : (minus n k).set k (-1) = minus n (k + 1) := by
  unfold minus
  have e : n - k = (n - (k + 1)) + 1 := by omega
  rw [e, List.replicate_succ, List.set_append_right _ _ (by simp), List.length_replicate, Nat.sub_self, List.set_cons_zero, List.replicate_succ']
  simp
theorem minus_all (n : Nat) : minus n n = List.replicate n (-1) := by simp [minus]
theorem hf_minus (n : Nat) : hf (List.replicate n (-1)) = fun _ => -1 := by
  funext i; unfold hf; by_cases h : i < n <;> simp [List.getD, h]

theorem Rd_at {w : World} {size n cap : Nat} {a : Option Addr} {cs : List Value} (h : Rd w size (.slice a n cap) n cs) (hn : 0 < n) : ∃ b off, a = some ⟨b, off, none⟩ ∧ ∀ j u, cs[j]? = some u → w.cell? ⟨b, off + j, none⟩ = some u := by
  obtain ⟨_, a', cap', he, _, _, _, h4⟩ := h
  cases he
  exact h4 hn
structure RowAt (V N : Nat → Int) (n : Nat) (w wr : World) (B : Nat) (hs : List Int) : Prop where
  len : hs.length = n
  row : wr.ownsRow B 3 1 (.slice (some ⟨B, 0, none⟩) n n) n (ints hs)
  old : Below w.heap.size w wr
  known : Known V N (hf hs)
  first : hf hs 0 = 0

set_option maxHeartbeats 6400000 in
theorem rheights_any (w : World) (a : Option Addr) (n cap : Nat) (V N : Nat → Int) (hn : n ≤ 50000) (hp : PairsAt w .i64 .i32 a n cap V N) :
    Calls Try.prog 10 #[.slice a n cap] w (HRes V N n w) := by
  have hle := hp.le
  have hcap := hp.cap63
  have HP := Lib.hid hp
  by_cases hok : Okay V N n
  · have HCK := Lib.hid (rcheck_good w a n cap V N hp hok)
    have hn0 := hok.1
    have HOK := Lib.hid hok
    clear hok hp
    go_enter Try.func10, Try.ntmps10
    go_wp2_with fail
    refine HCK.out.mono ?_; rintro e w1 ⟨rfl, hb1⟩
    have hbs1 := hb1.size
    obtain ⟨i, hi, hz, hsi, hby⟩ := infoInt
    obtain ⟨w2, hrun, hown2, hg2⟩ := run_make_full (P := Try.prog) (w := w1) w1.heap.size 31 3 i (.int .i64 0) 1 Try.underlying31 hi hz hsi .i64 .i64 n (by rw [hby]; omega) (by simp only [maxLen]; omega) (Nat.le_refl _)
    rw [madeZerosI] at hown2
    have hb2 : Below w1.heap.size w1 w2 := ⟨hg2.os, hg2.tape, hg2.output, hg2.size, fun k hk => hg2.block k hk (by simp)⟩
    obtain ⟨B, hB⟩ : ∃ B, B = w1.heap.size := ⟨_, rfl⟩
    have hm : (Instr.makeSlice 31 (.int .i64 (n : Int)) (.int .i64 (n : Int))).run Try.prog w1 = .ok (.slice (some ⟨w1.heap.size, 0, none⟩) n n) w2 := hrun
    rw [← hB] at hown2 hm hbs1
    have HO2 := Lib.hid hown2
    have HB2 := Lib.hid (hb1.trans (hb2.mono hb1.size))
    have HBB := Lib.hid hB
    clear hown2 hg2 hb2 hrun hi hz hsi hby hb1 hB
    go_wp2_with fail
    go_loopw [5] (fun i wr => ∃ k : Nat, k ≤ n ∧ i = .int .i64 (k : Int) ∧ wr.ownsRow B 3 1 (.slice (some ⟨B, 0, none⟩) n n) n (ints (minus n k)) ∧ Below w.heap.size w wr) (fun i _ => n - (intOf i).toNat)
    case atStart => exact ⟨0, by omega, rfl, by simpa [minus] using HO2.out, HB2.out⟩
    case round =>
      obtain ⟨k, hk, rfl, hown, hb⟩ := hrel
      by_cases hlt : k < n
      · have dh : wr.cell? ⟨B, k, none⟩ = some (.int .i64 ((minus n k).getD k 0)) := by
          rw [hown.cellAt k (by omega), ints_get _ _ (by rw [minus_length _ _ hk]; omega)]
        have eh := hown.frozenAt k
        have HW := Lib.hid hown
        have HB := Lib.hid hb
        clear hown hb
        go_wp2_with fail
        go_roundw
        case rel =>
          refine ⟨k + 1, by omega, by go_num, ?_, HB.out.setCell hbs1 _⟩
          have hst := (HW.out.stored k (.int .i64 (-1))).1
          rwa [ints_set, minus_set n k hlt] at hst
        case measure => simp [intOf]; omega
      · obtain rfl : k = n := by omega
        have dh : wr.cell? ⟨B, 0, none⟩ = some (.int .i64 ((minus k k).getD 0 0)) := by
          rw [hown.cellAt 0 (by omega), ints_get _ _ (by rw [minus_length _ _ hk]; omega)]
        have eh := hown.frozenAt 0
        obtain ⟨wo, rfl⟩ : ∃ wo : World, wo = wr := ⟨_, rfl⟩
        have hst := (hown.stored 0 (.int .i64 0)).1
        rw [ints_set, minus_all] at hst
        have hfs : hf ((List.replicate k (-1)).set 0 0) = upd (fun _ => -1) 0 0 := by rw [hf_set _ _ _ (by simpa using hn0), hf_minus]
        have hR0 : RowAt V N k w (wo.setCell ⟨B, 0, none⟩ (.int .i64 0)) B ((List.replicate k (-1)).set 0 0) := ⟨by simp, hst, hb.setCell hbs1 _, by rw [hfs]; exact (known_start V N).put .start (by simp) (by omega), by rw [hfs, upd_same]⟩
        have HR0 := Lib.hid hR0
        clear hown hb hst hfs hR0 HO2 HB2 hm hlt hk
        go_wp2_with fail
        go_loopg [6] (2 * k + 1) (fun gm ag wr => ∃ hs b, ag = .bool b ∧ RowAt V N k w wr B hs ∧ (b = false → ∀ i, 0 ≤ hf hs i → Done V N (hf hs) i) ∧ 2 * (k - cnt (hf hs) k) + (if b then 1 else 0) ≤ gm)
        case atStart => exact ⟨_, true, rfl, HR0.out, (fun h => by cases h), by simp; omega⟩
        case round =>
          obtain ⟨hs, b, rfl, hR, hD, hM⟩ := hrel
          clear HR0
          have HR := Lib.hid hR
          have HD := Lib.hid hD
          have HM := Lib.hid hM
          clear hR hD hM
          cases b with
          | false =>
            have hD := HD.out rfl
            have hfine := fine_of_done HR.out.known HR.out.first hD
            have hls : hList V N k = hs := by
              unfold hList
              rw [List.map_congr_left (g := hf hs) fun j _ => hOf_eq HR.out.known HR.out.first hD j]
              exact (hf_list hs k HR.out.len).symm
            have HR2 := Lib.hid (show HRes V N k w (.returned (.tuple #[.slice (some ⟨B, 0, none⟩) k k, .bool true])) wr from ⟨HR.out.old, .inl ⟨⟨HOK.out, hfine⟩, _, rfl, by rw [hls]; exact rd_of_owns HR.out.row⟩⟩)
            clear hD hfine hls
            go_wp2_with fail
            go_ret2
            exact HR2.out
          | true =>
            obtain ⟨wp, rfl⟩ : ∃ wp : World, wp = wr := ⟨_, rfl⟩
            obtain ⟨c0, hc0⟩ : ∃ c0, c0 = cnt (hf hs) k := ⟨_, rfl⟩
            have HC0 := Lib.hid hc0
            clear hc0
            go_wp2_with fail
            go_loopw [6, 7] (fun ag i wr => ∃ j hs b, j ≤ k ∧ i = .int .i64 ((j : Nat) : Int) ∧ ag = .bool b ∧ RowAt V N k w wr B hs ∧ (b = false → ∀ i, i < j → 0 ≤ hf hs i → Done V N (hf hs) i) ∧ c0 ≤ cnt (hf hs) k ∧ (b = true → c0 < cnt (hf hs) k)) (fun _ i _ => k - (intOf i).toNat)
            case atStart => exact ⟨0, hs, false, by omega, rfl, rfl, HR.out, (fun _ i hi => by omega), by rw [HC0.out]; exact Nat.le_refl _, (fun h => by cases h)⟩
            case round =>
              obtain ⟨j, hs2, b, hj, rfl, rfl, hR2, hD2, hc1, hc2⟩ := hrel
              have HR2 := Lib.hid hR2
              have HD2 := Lib.hid hD2
              have HC1 := Lib.hid hc1
              have HC2 := Lib.hid hc2
              clear hR2 hD2 hc1 hc2
              by_cases hlt : j < k
              · have hpw := HP.out.below HR2.out.old (Nat.le_refl _)
                obtain ⟨ab, ao, rfl, habl, hcs⟩ := hpw.cells (by omega)
                obtain ⟨kv, kn⟩ := hcs j hlt
                obtain ⟨hn0', hn1⟩ := rng_i32 (hpw.wf j hlt).2
                have hop := okay_op HOK.out hlt
                have hju := okay_jump HOK.out hlt
                have hne := okay_next HOK.out hlt
                have hlow := HR2.out.known.low j
                have ch : wr.cell? ⟨B, j, none⟩ = some (.int .i64 (hf hs2 j)) := by
                  rw [HR2.out.row.cellAt j (by omega), ints_get _ _ (by rw [HR2.out.len]; exact hlt), hf_get _ _ (by rw [HR2.out.len]; exact hlt)]
                obtain ⟨v, hv⟩ : ∃ v, v = V j := ⟨_, rfl⟩
                obtain ⟨c, hc⟩ : ∃ c, c = N j := ⟨_, rfl⟩
                obtain ⟨x, hx⟩ : ∃ x, x = hf hs2 j := ⟨_, rfl⟩
                obtain ⟨p, hpt⟩ : ∃ p, p = takesC v := ⟨_, rfl⟩
                obtain ⟨r, hrl⟩ : ∃ r, r = leavesC v := ⟨_, rfl⟩
                have hpb := takes_le v
                have hrb := leaves_le v
                have hEF := fun W => effect_any v (by rw [hv]; exact hop) W
                have hEN := fun W => rends_any v W
                rw [← hpt, ← hrl] at hEF
                rw [← hpt] at hpb
                rw [← hrl] at hrb
                rw [← hv] at kv hju hne
                rw [← hc] at kn hn0' hn1 hju
                rw [← hx] at hlow ch
                have HX := Lib.hid hx
                have HV := Lib.hid hv
                have HC := Lib.hid hc
                have HPT := Lib.hid hpt
                have HRL := Lib.hid hrl
                have HEF := Lib.hid hEF
                have HEN := Lib.hid hEN
                have HJU := Lib.hid hju
                have HNE := Lib.hid hne
                have HHV := Lib.hid hle
                clear hpw hcs hop hju hne hv hc hx hpt hrl hEF hEN
                by_cases hx0 : x < 0
                · go_wp2_with fail
                  go_roundw
                  case rel =>
                    refine ⟨j + 1, hs2, b, by omega, by go_num, rfl, HR2.out, fun hb i hi h0 => ?_, HC1.out, HC2.out⟩
                    rcases (by omega : i < j ∨ i = j) with h | rfl
                    · exact HD2.out hb i h h0
                    · rw [← HX.out] at h0; omega
                  case measure => simp [intOf]; omega
                · by_cases hxp : x < p
                  · have hnf : ¬ Fine V N := not_fine_takes HR2.out.known (i := j) (by rw [← HX.out]; omega) (by rw [← HX.out, ← HV.out, ← HPT.out]; exact hxp)
                    have HNF := Lib.hid (show HRes V N k w (.returned (.tuple #[.slice none 0 0, .bool false])) wr from ⟨HR2.out.old, .inr ⟨fun h => hnf h.2, rfl⟩⟩)
                    clear hnf
                    go_wp2_with fail
                    refine (HEF.out _).mono ?_; rintro e w5 ⟨rfl, rfl⟩
                    go_wp2_with fail
                    go_ret2
                    exact HNF.out
                  · obtain ⟨eb, heb⟩ : ∃ eb, endsC v = eb := ⟨_, rfl⟩
                    obtain ⟨jb, hjb⟩ : ∃ jb, jumpsC v = jb := ⟨_, rfl⟩
                    have hEN2 := HEN.out
                    rw [heb] at hEN2
                    have HEN2 := Lib.hid hEN2
                    have HEB := Lib.hid heb
                    have HJB := Lib.hid hjb
                    clear hEN2 heb hjb
                    go_wp2_with fail
                    refine (HEF.out _).mono ?_; rintro e w5 ⟨rfl, rfl⟩
                    go_upto_if 64 with (go_at_call 18; refine (HEN2.out _).mono ?_; rintro e w6 ⟨rfl, rfl⟩)
                    go_cut [10] (fun tv wx => ∃ T : List Nat, T = (if eb then [] else [j + 1]) ∧ wx.ownsRow wr.heap.size 3 1 tv T.length (ints (lits T)) ∧ Below wr.heap.size wr wx)
                    case first =>
                      cases eb with
                      | true =>
                        go_wp2_with fail
                        go_meet
                        case rel => exact ⟨[], rfl, World.ownsRow_nil _ _ _ _, Below.refl _ _⟩
                      | false =>
                        go_wp2_with (at_builtin; refine app_own _ elemInt rfl _ _ rfl wr.heap.size _ 0 [] rfl (World.ownsRow_nil _ _ _ _) _ 1 (ints [(j : Int) + 1]) rfl (rd_new _ _ _ _ _ (by simp) (by simp [maxLen])) (one_ints _) (by simp only [maxLen]; omega) (by omega) (by simp) ?_; intro v3 w3 ho3 hg3)
                        go_meet
                        case rel => exact ⟨[j + 1], rfl, by simpa [lits] using ho3, below_of_grown ((Below.refl _ _).alloc (Nat.le_refl _) _) (by simp) (World.ownsRow_nil _ wr.heap.size 3 1) (Nat.le_refl _) rfl hg3⟩
                    case rest =>
                      obtain ⟨T, hT, hrowT, hbT⟩ := hcut
                      have kv2 := cell_below hbT (Nat.le_refl _) kv
                      have kn2 := cell_below hbT (Nat.le_refl _) kn
                      have ch2 := cell_below hbT (Nat.le_refl _) ch
                      have HT := Lib.hid hT
                      have HROWT := Lib.hid hrowT
                      have HBT := Lib.hid hbT
                      clear hT hrowT hbT kv kn ch
                      go_upto_region 22 with fail
                      go_cut [83] (fun q wx => q = .bool jb ∧ wx = wc)
                      case first =>
                        by_cases h25 : v = 25
                        · have e25 : (v == 25) = true := by simp [h25]
                          obtain rfl : jb = true := by rw [← HJB.out, h25]; rfl
                          clear h25
                          go_wp2_with fail
                          go_meet
                          case rel => exact ⟨rfl, rfl⟩
                        · have e25 : (v == 25) = false := by simp [h25]
                          by_cases h26 : v = 26
                          · have e26 : (v == 26) = true := by simp [h26]
                            obtain rfl : jb = true := by rw [← HJB.out, h26]; rfl
                            clear h25 h26
                            go_wp2_with fail
                            go_meet
                            case rel => exact ⟨rfl, rfl⟩
                          · have e26 : (v == 26) = false := by simp [h26]
                            obtain rfl : jb = false := by rw [← HJB.out, jumpsC, e25, e26]; rfl
                            clear h25 h26
                            go_wp2_with fail
                            go_meet
                            case rel => exact ⟨rfl, rfl⟩
                      case rest =>
                        obtain ⟨rfl, hwc⟩ := hcut
                        rw [hwc]
                        clear hwc
                        go_upto_if 83 with fail
                        go_cut [10] (fun tv wx => ∃ T2 : List Nat, T2 = T ++ (if jb then [c.toNat] else []) ∧ wx.ownsRow wr.heap.size 3 1 tv T2.length (ints (lits T2)) ∧ Below wr.heap.size wr wx)
                        case first =>
                          cases jb with
                          | false =>
                            go_wp2_with fail
                            go_meet
                            case rel => exact ⟨T, by simp, HROWT.out, HBT.out⟩
                          | true =>
                            have hTl : T.length ≤ 1 := by rw [HT.out]; split <;> simp
                            have hcj := HJU.out HJB.out
                            have hlt : lits (T ++ [c.toNat]) = lits T ++ [c] := by simp [lits]; omega
                            have HLT := Lib.hid hlt
                            clear hcj hlt
                            go_wp2_with (at_builtin; refine app_own _ elemInt rfl _ _ rfl wr.heap.size _ T.length _ rfl (HROWT.out.alloc _) _ 1 (ints [c]) rfl (rd_new _ _ _ _ _ (by simp) (by simp [maxLen])) (one_ints _) (by simp only [maxLen]; omega) (by omega) (by have := HBT.out.size; simp; omega) ?_; intro v3 w3 ho3 hg3)
                            go_meet
                            case rel => exact ⟨T ++ [c.toNat], by simp, by rw [HLT.out, ints_append, List.length_append]; exact ho3, below_of_grown (HBT.out.alloc HBT.out.size _) (by have := HBT.out.size; simp; omega) (HROWT.out.alloc _) (Nat.le_refl _) rfl hg3⟩
                        case rest =>
                          obtain ⟨T2, hT2, hrowT, hbT⟩ := hcut
                          obtain ⟨X, hX⟩ : ∃ X, X = x - p + r := ⟨_, rfl⟩
                          have hTl : T2.length ≤ 2 := by rw [hT2, HT.out]; cases eb <;> cases jb <;> simp
                          have hsnd := HR2.out.known.sound j (by rw [← HX.out]; omega)
                          have htk : takesC (V j) ≤ hf hs2 j := by rw [← HX.out, ← HV.out, ← HPT.out]; omega
                          have hth : thenC V j (hf hs2 j) = X := by unfold thenC; rw [← HX.out, ← HV.out, ← HPT.out, ← HRL.out, hX]
                          have hall : ∀ t ∈ T2, t < k ∧ Hi V N t X := by
                            intro t ht
                            have hH : Hi V N t X := by
                              rw [hT2, HT.out] at ht
                              rcases List.mem_append.1 ht with h | h
                              · cases eb with
                                | true => simp at h
                                | false =>
                                  simp at h; subst h; rw [← hth]
                                  exact .next hsnd htk (by rw [← HV.out]; exact HEB.out)
                              · cases jb with
                                | false => simp at h
                                | true =>
                                  simp at h; subst h; rw [← hth, HC.out]
                                  exact .jump hsnd htk (by rw [← HV.out]; exact HJB.out)
                            exact ⟨hH.lt HOK.out, hH⟩
                          have hdone : ∀ H' : Nat → Int, H' j = x → (∀ t ∈ T2, H' t = X) → Done V N H' j := by
                            intro H' h1 h2
                            have e : thenC V j (H' j) = X := by rw [h1, HX.out]; exact hth
                            refine ⟨by rw [h1, HX.out]; exact htk, fun h => ?_, fun h => ?_⟩
                            · rw [e]; refine h2 _ ?_
                              rw [← HV.out, HJB.out] at h
                              rw [hT2, h, ← HC.out]; simp
                            · rw [e]; refine h2 _ ?_
                              rw [← HV.out, HEB.out] at h
                              rw [hT2, HT.out, h]; simp
                          have hX0 : 0 ≤ X := by rw [hX]; omega
                          have hBw : B < wr.heap.size := by
                            obtain ⟨_, _, hv', _, h2, _, _⟩ := owns_some HR2.out.row hn0
                            cases hv'; exact h2
                          have hgT : wr.grownBy wc none := ⟨hbT.os, hbT.tape, hbT.output, hbT.size, fun q hq _ => hbT.block q hq⟩
                          have hR3 : RowAt V N k w wc B hs2 := ⟨HR2.out.len, HR2.out.row.kept hgT (Classical.em _), HR2.out.old.trans (hbT.mono HR2.out.old.size), HR2.out.known, HR2.out.first⟩
                          have hTB : ∀ q, (Value.ownBlock u10) = some q → ¬ (q = B) := fun q hq e => by have := (hrowT.lt q hq).1; omega
                          have hrdT := rd_of_owns hrowT
                          obtain ⟨ta, tcap, rfl, tl1, tl2, tl3⟩ := owns_shape hrowT
                          unfold maxLen at tl2
                          obtain ⟨wt, rfl⟩ : ∃ wt : World, wt = wc := ⟨_, rfl⟩
                          have w1X : IntKind.i64.wrap (x - p) = x - p := IntWalk.i64_in _ (by omega)
                          have w2X : IntKind.i64.wrap (x - p + r) = X := by rw [IntWalk.i64_in _ (by omega), hX]
                          have HXX := Lib.hid hX
                          have HALL := Lib.hid hall
                          have HDONE := Lib.hid hdone
                          have HR3 := Lib.hid hR3
                          have HTB := Lib.hid hTB
                          have HRDT := Lib.hid hrdT
                          have W1X := Lib.hid w1X
                          have W2X := Lib.hid w2X
                          have hj0 : hf hs2 j = x := HX.out.symm
                          have HJ0 := Lib.hid hj0
                          clear hT2 hrowT hbT hX hsnd htk hth hall hdone hgT hR3 hTB hrdT w1X w2X hj0 kv2 kn2 ch2 HROWT HBT
                          go_wp2_with fail
                          go_loopw [6, 11] (fun ag kk wz => ∃ m hs3 b3, m ≤ T2.length ∧ kk = .int .i64 ((m : Nat) : Int) ∧ ag = .bool b3 ∧ RowAt V N k w wz B hs3 ∧ Fr (fun q => q = B) wt wz ∧ hf hs3 j = x ∧ (b3 = false → (∀ i, i < j → 0 ≤ hf hs3 i → Done V N (hf hs3) i) ∧ ∀ m', m' < m → hf hs3 (T2.getD m' 0) = X) ∧ c0 ≤ cnt (hf hs3) k ∧ (b3 = true → c0 < cnt (hf hs3) k)) (fun _ kk _ => T2.length - (intOf kk).toNat)
                          case atStart => exact ⟨0, hs2, b, by omega, rfl, rfl, HR3.out, Fr.refl _ _, HJ0.out, (fun hb => ⟨HD2.out hb, fun m' h => by omega⟩), HC1.out, HC2.out⟩
                          case round =>
                            obtain ⟨m, hs3, b3, hm, rfl, rfl, hR4, hfr, hjx, hD4, hc4, hc5⟩ := hrel
                            have HR4 := Lib.hid hR4
                            have HFR := Lib.hid hfr
                            have HJX := Lib.hid hjx
                            have HD4 := Lib.hid hD4
                            have HC4 := Lib.hid hc4
                            have HC5 := Lib.hid hc5
                            clear hR4 hfr hjx hD4 hc4 hc5
                            by_cases hlt : m < T2.length
                            · obtain ⟨t, ht⟩ : ∃ t, t = T2.getD m 0 := ⟨_, rfl⟩
                              have htm : t ∈ T2 := by rw [ht]; simp [List.getD, hlt]
                              obtain ⟨htk, hHt⟩ := HALL.out t htm
                              have hrd := HFR.out.rd HRDT.out HTB.out
                              obtain ⟨tb, tof, rfl, hct⟩ := Rd_at hrd (by omega)
                              have ct : wr.cell? ⟨tb, tof + m, none⟩ = some (.int .i64 (t : Int)) := hct m _ (by rw [ints_get _ _ (by rw [lits_length]; exact hlt), ht]; simp [lits, List.getD, hlt])
                              have cj : wr.cell? ⟨B, j, none⟩ = some (.int .i64 x) := by
                                rw [HR4.out.row.cellAt j (by omega), ints_get _ _ (by rw [HR4.out.len]; assumption), hf_get _ _ (by rw [HR4.out.len]; assumption), HJX.out]
                              have cy : wr.cell? ⟨B, t, none⟩ = some (.int .i64 (hf hs3 t)) := by
                                rw [HR4.out.row.cellAt t (by omega), ints_get _ _ (by rw [HR4.out.len]; exact htk), hf_get _ _ (by rw [HR4.out.len]; exact htk)]
                              have fy := HR4.out.row.frozenAt t
                              obtain ⟨y, hy⟩ : ∃ y, y = hf hs3 t := ⟨_, rfl⟩
                              rw [← hy] at cy
                              have w1X := W1X.out
                              have w2X := W2X.out
                              have HTT := Lib.hid ht
                              have HHT := Lib.hid hHt
                              have HY := Lib.hid hy
                              clear ht htm hHt hrd hct hy
                              go_wp2_with fail
                              go_quiet (fail)
                              clear w1X w2X
                              have hRd : RowAt V N k w (wr.drewN nq) B hs3 := ⟨HR4.out.len, HR4.out.row, below_drewN HR4.out.old nq, HR4.out.known, HR4.out.first⟩
                              have HRD := Lib.hid hRd
                              clear hRd
                              by_cases hhi : 1000 < X
                              · have HNF := Lib.hid (show HRes V N k w (.returned (.tuple #[.slice none 0 0, .bool false])) (wr.drewN nq) from ⟨HRD.out.old, .inr ⟨fun h => not_fine_high HHT.out hhi h.2, rfl⟩⟩)
                                go_wp2_with fail
                                go_ret2
                                exact HNF.out
                              · by_cases hy0 : 0 ≤ y
                                · by_cases hyx : y = X
                                  · have q1 : (y == X) = true := by simp [hyx]
                                    have hey : hf hs3 t = X := by rw [← HY.out]; exact hyx
                                    have HEY := Lib.hid hey
                                    clear hey
                                    subst hyx
                                    go_wp2_with fail
                                    go_roundw
                                    case rel =>
                                      refine ⟨m + 1, hs3, b3, by omega, by go_num, rfl, HRD.out, HFR.out.drewN nq, HJX.out, fun hb => ⟨(HD4.out hb).1, fun m' hm' => ?_⟩, HC4.out, HC5.out⟩
                                      rcases (by omega : m' < m ∨ m' = m) with h | rfl
                                      · exact (HD4.out hb).2 m' h
                                      · rw [← HTT.out]; exact HEY.out
                                    case measure => simp [intOf]; omega
                                  · have q1 : (y == X) = false := by simp [hyx]
                                    have HNF := Lib.hid (show HRes V N k w (.returned (.tuple #[.slice none 0 0, .bool false])) (wr.drewN nq) from ⟨HRD.out.old, .inr ⟨fun h => not_fine_two HR4.out.known HHT.out (by rw [← HY.out]; exact hy0) (by rw [← HY.out]; exact hyx) h.2, rfl⟩⟩)
                                    clear hyx
                                    go_wp2_with fail
                                    go_ret2
                                    exact HNF.out
                                · have hy1 : y < 0 := by omega
                                  have hyn : hf hs3 t < 0 := by rw [← HY.out]; exact hy1
                                  have hst := (HRD.out.row.stored t (.int .i64 X)).1
                                  rw [ints_set] at hst
                                  have hfs : hf (hs3.set t X) = upd (hf hs3) t X := hf_set _ _ _ (by rw [HRD.out.len]; exact htk)
                                  have hcu : cnt (hf (hs3.set t X)) k = cnt (hf hs3) k + 1 := by rw [hfs, cnt_upd _ _ _ hyn hX0, if_pos htk]
                                  have hne0 : (0 : Nat) ≠ t := fun e => by rw [← e, HR4.out.first] at hyn; omega
                                  have hnej : j ≠ t := fun e => by rw [← e, HJX.out] at hyn; omega
                                  have hR5 : RowAt V N k w ((wr.drewN nq).setCell ⟨B, t, none⟩ (.int .i64 X)) B (hs3.set t X) := ⟨by rw [List.length_set]; exact HRD.out.len, hst, HRD.out.old.setCell hbs1 _, by rw [hfs]; exact HR4.out.known.put HHT.out hyn (by omega), by rw [hfs, upd_other _ _ _ hne0]; exact HR4.out.first⟩
                                  have hfr5 : Fr (fun q => q = B) wt ((wr.drewN nq).setCell ⟨B, t, none⟩ (.int .i64 X)) := (HFR.out.drewN nq).setCell (.inr rfl) _
                                  have hj5 : hf (hs3.set t X) j = x := by rw [hfs, upd_other _ _ _ hnej]; exact HJX.out
                                  have HR5 := Lib.hid hR5
                                  have HF5 := Lib.hid hfr5
                                  have HJ5 := Lib.hid hj5
                                  have HCU := Lib.hid hcu
                                  clear hyn hst hfs hcu hne0 hnej hR5 hfr5 hj5 hy0
                                  go_wp2_with fail
                                  go_roundw
                                  case rel =>
                                    have h1 := HCU.out
                                    have h2 := HC4.out
                                    exact ⟨m + 1, hs3.set t X, true, by omega, by go_num, rfl, HR5.out, HF5.out, HJ5.out, (fun hb => by cases hb), by omega, (fun _ => by omega)⟩
                                  case measure => simp [intOf]; omega
                            · obtain rfl : m = T2.length := by omega
                              go_wp2_with fail
                              go_roundw
                              case rel =>
                                refine ⟨j + 1, hs3, b3, by omega, by go_num, rfl, HR4.out, fun hb i hi h0 => ?_, HC4.out, HC5.out⟩
                                rcases (by omega : i < j ∨ i = j) with h | rfl
                                · exact (HD4.out hb).1 i h h0
                                · refine HDONE.out _ HJX.out fun t ht => ?_
                                  obtain ⟨m', hm', e⟩ := List.getElem_of_mem ht
                                  have := (HD4.out hb).2 m' hm'
                                  rwa [show T2.getD m' 0 = t by simp [List.getD, hm', e]] at this
                              case measure => simp [intOf]; omega
              · obtain rfl : j = k := by omega
                have hm : 2 * (j - cnt (hf hs2) j) + (if b then 1 else 0) < gk := by
                  have h1 := HM.out
                  have h2 := HC1.out
                  have h3 := cnt_le (hf hs2) j
                  have h4 := HC0.out
                  cases b with
                  | false => simp at h1 ⊢; omega
                  | true => have h5 := HC2.out rfl; simp at h1 ⊢; omega
                have HMM := Lib.hid hm
                have hdd : b = false → ∀ i, 0 ≤ hf hs2 i → Done V N (hf hs2) i := fun hb i hi => HD2.out hb i ((HR2.out.known.sound i hi).lt HOK.out) hi
                have HDD := Lib.hid hdd
                clear hm hdd hlt
                go_wp2_with fail
                go_roundg (2 * (j - cnt (hf hs2) j) + (if b then 1 else 0))
                case rel => exact ⟨hs2, b, rfl, HR2.out, HDD.out, Nat.le_refl _⟩
                case measure => exact HMM.out
  · have HCK := Lib.hid (rcheck_ill w a n cap V N hp hok)
    have HOK := Lib.hid hok
    clear hok hp
    go_enter Try.func10, Try.ntmps10
    go_wp2_with fail
    refine HCK.out.mono ?_; rintro e w1 ⟨⟨x, rfl⟩, hb1⟩
    go_wp2_with fail
    go_ret2
    exact ⟨hb1, .inr ⟨fun h => HOK.out h.1, rfl⟩⟩
end Go.Proofs.Ytlnldkciiphidaa
