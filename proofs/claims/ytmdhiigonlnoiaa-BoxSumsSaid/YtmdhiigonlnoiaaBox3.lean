/- Contracts of Open. -/
import Derived.Test.YtmdhiigonlnoiaaBox2
import Derived.Deep.RegionWith
namespace Go.Proofs.Ytmdhiigonlnoiaa
open Go.RowKit Go.Waf
set_option maxRecDepth 100000
set_option linter.unusedVariables false

theorem sgn_bytes : Bytes sgn := by intro x hx; simp [sgn] at hx; omega
theorem none_mono {P : Program} {f : FuncId} {args : Array Value} {w : World} {R : Ending → World → Prop} (j : Int) (hR : ∀ e w', e = .returned (.tuple #[.int .u8 0, .slice none 0 0, .int .i64 j]) ∧ w = w' → R e w')
    (h : Calls P f args w fun e w' => e = .returned (.tuple #[.int .u8 0, .slice none 0 0, .int .i64 j]) ∧ w = w') : Calls P f args w R := h.mono hR
theorem cell_below {w w' : World} {B : Nat} {p : Addr} {u : Value} (hb : Below B w w') (hB : w.heap.size ≤ B) (hc : w.cell? p = some u) : w'.cell? p = some u := by
  rw [hb.cell (p := p) (Nat.lt_of_lt_of_le (World.block_lt_of_cell? w _ hc) hB)]; exact hc
/-- What Open hands back. -/
def OpenRet (ys : List Int) (w : World) (e : Ending) (w' : World) : Prop :=
  ∃ u, e = .returned (.tuple #[.int .u8 (openB ys).1, u, .int .i64 (openB ys).2.2]) ∧ w'.ownsRow w.heap.size 5 1 u (openB ys).2.1.length (byt (openB ys).2.1) ∧ Below w.heap.size w w'

set_option maxHeartbeats 1600000 in
theorem open_any_early (w : World) (va : Option Addr) (vc n : Nat) (ys : List Int) (hr : Rd w 1 (.slice va n vc) n (byt ys)) (hb : Bytes ys) (hc1 : vc ≤ 9223372036854775807) (h : n < 5 ∨ (5 ≤ n ∧ ys.take 4 ≠ sgn)) :
    Calls Try.prog 48 #[.slice va n vc] w fun e w' => e = .returned (.tuple #[.int .u8 0, .slice none 0 0, .int .i64 20]) ∧ w = w' := by
  rcases h with h | ⟨h, hne⟩
  · have h0 : n ≤ vc := by obtain ⟨_, _, he, h0, _⟩ := rd_shape hr; cases he; exact h0
    clear hr
    go_enter Try.func48, Try.ntmps48
    go_wp2_with fail
    go_ret3
    exact ⟨rfl, rfl⟩
  · obtain ⟨b, off, rfl, _⟩ := Rd_at hr (by omega)
    have h0 : n ≤ vc := by obtain ⟨_, _, he, h0, _⟩ := rd_shape hr; cases he; exact h0
    have hlen : ys.length = n := by have := hr.1; simpa [byt] using this
    have h4 : Rd w 1 (.slice (some ⟨b, off, none⟩) 4 vc) 4 (byt (ys.take 4)) := by
      have := hr.take 4 vc (by omega) (by omega) (Nat.le_refl _)
      rwa [Nat.mul_one, byt, ← List.map_take] at this
    have c4 := convB h4
    have q : ((strOfNums (ys.take 4)).toList == [87, 65, 70, 82]) = false := by
      have e := str_eq (ys.take 4) sgn (fun x hx => hb x (List.mem_of_mem_take hx)) sgn_bytes
      rw [decide_eq_false hne, show (strOfNums sgn).toList = [87, 65, 70, 82] by decide +kernel] at e
      exact e
    clear hr h4 hne
    go_enter Try.func48, Try.ntmps48
    go_wp2_with fail
    go_ret3
    exact ⟨rfl, rfl⟩

set_option maxHeartbeats 3200000 in
theorem open_any (w : World) (v : Value) (n : Nat) (ys : List Int) (hr : Rd w 1 v n (byt ys)) (hb : Bytes ys) (hn : n ≤ 100000) :
    Calls Try.prog 48 #[v] w (OpenRet ys w) := by
  have hlen : ys.length = n := by have := hr.1; simpa [byt] using this
  obtain ⟨va, vc, rfl, c1, c2, c3⟩ := rd_shape hr
  unfold maxLen at c2
  have HP0 : ∀ j (e : Ending) (w' : World), openB ys = (0, [], j) → e = .returned (.tuple #[.int .u8 0, .slice none 0 0, .int .i64 j]) ∧ w = w' → OpenRet ys w e w' := by
    rintro j e w' ho ⟨rfl, rfl⟩
    refine ⟨.slice none 0 0, ?_, ?_, Below.refl _ _⟩
    · rw [ho]
    · rw [ho]; exact World.ownsRow_nil _ _ _ _
  by_cases he : n < 5 ∨ (5 ≤ n ∧ ys.take 4 ≠ sgn)
  · refine (open_any_early w va vc n ys hr hb (by omega) he).mono fun e w' h => HP0 20 e w' ?_ h
    unfold openB
    rw [if_pos]
    rcases he with h | ⟨_, h⟩
    · exact .inl (by omega)
    · exact .inr h
  have h5 : 5 ≤ n := by omega
  have hs : ys.take 4 = sgn := Classical.not_not.1 fun h => he (.inr ⟨h5, h⟩)
  obtain ⟨b, off, rfl, hcells⟩ := Rd_at hr (by omega)
  have h4 : Rd w 1 (.slice (some ⟨b, off, none⟩) 4 vc) 4 (byt (ys.take 4)) := by
    have := hr.take 4 vc (by omega) (by omega) (Nat.le_refl _)
    rwa [Nat.mul_one, byt, ← List.map_take] at this
  have c4 := convB h4
  have q : ((strOfNums (ys.take 4)).toList == [87, 65, 70, 82]) = true := by rw [hs]; decide +kernel
  have ho : openB ys = match readVar (ys.drop 5) with
      | none => (0, [], 20)
      | some (n, k) => if 16777216 < n then (0, [], 22) else if ys.length ≠ 5 + k + n + 4 then (0, [], 20)
        else if ys.drop (5 + k + n) ≠ four (sumOf (ys.take (5 + k + n))) then (0, [], 21) else (ys.getD 4 0, (ys.drop (5 + k)).take n, 0) := by
    conv => lhs; unfold openB
    rw [if_neg (by rw [hlen]; rintro (h | h); omega; exact h hs)]
    rfl
  have hb5 : Bytes (ys.drop 5) := fun x hx => hb x (List.mem_of_mem_drop hx)
  have HO := Lib.hid ho
  have HCE := Lib.hid hcells
  have R := Lib.hid hr
  have HL := Lib.hid hlen
  have HB := Lib.hid hb
  have HB5 := Lib.hid hb5
  clear hr hlen hb h4 he hs ho hb5 hcells
  by_cases hv5 : vc = 5
  · subst hv5
    obtain rfl : n = 5 := by omega
    have hd : ys.drop 5 = [] := List.drop_eq_nil_of_le (by rw [HL.out]; omega)
    have hr5 : Rd w 1 (.slice (some ⟨b, off, none⟩) 0 0) 0 (byt (ys.drop 5)) := by
      rw [hd]; exact ⟨rfl, _, _, rfl, Nat.le_refl _, by simp [maxLen], fun _ => rfl, fun h => absurd h (by omega)⟩
    have hrd : readRes (readVar (ys.drop 5)) = (0, 0, false) := by rw [hd]; rfl
    have HRV := Lib.hid (read_any w _ _ _ hr5 HB5.out 0 0 false hrd)
    have HO2 : openB ys = (0, [], 20) := by rw [HO.out, hd]; rfl
    have HO3 := Lib.hid HO2
    clear hr5 hrd hd HO2
    refine none_mono 20 (HP0 20 · · HO3.out) ?_
    clear HP0
    go_enter Try.func48, Try.ntmps48
    go_wp2_with fail
    refine HRV.out.mono ?_; rintro e w1 ⟨rfl, rfl⟩
    go_wp2_with fail
    go_ret3
    exact ⟨rfl, rfl⟩
  have hr5 : Rd w 1 (.slice (some ⟨b, off + 5, none⟩) (n - 5) (vc - 5)) (n - 5) (byt (ys.drop 5)) := by
    have := R.out.drop 5 h5
    rwa [Nat.mul_one, byt, ← List.map_drop] at this
  obtain ⟨m, k, t, hrd⟩ : ∃ m k t, readRes (readVar (ys.drop 5)) = (m, k, t) := ⟨_, _, _, rfl⟩
  have hm64 := readVar_lt (ys.drop 5) HB5.out m k t hrd
  have HRV := Lib.hid (read_any w _ _ _ hr5 HB5.out m k t hrd)
  have HRD := Lib.hid hrd
  clear hr5 hrd
  cases t with
  | false =>
    have HO2 : openB ys = (0, [], 20) := by
      rw [HO.out]
      cases hq : readVar (ys.drop 5) with
      | none => rfl
      | some p => have := HRD.out; rw [hq] at this; simp [readRes] at this
    have HO3 := Lib.hid HO2
    clear HO2
    refine none_mono 20 (HP0 20 · · HO3.out) ?_
    clear HP0
    go_enter Try.func48, Try.ntmps48
    go_wp2_with fail
    refine HRV.out.mono ?_; rintro e w1 ⟨rfl, rfl⟩
    go_wp2_with fail
    go_ret3
    exact ⟨rfl, rfl⟩
  | true =>
    have hrv : readVar (ys.drop 5) = some (m, k) := by
      cases hq : readVar (ys.drop 5) with
      | none => have := HRD.out; rw [hq] at this; simp [readRes] at this
      | some p => have := HRD.out; rw [hq] at this; obtain ⟨p1, p2⟩ := p; simp only [readRes, Prod.mk.injEq, and_true] at this; rw [this.1, this.2]
    have hkl := (readFrom_le _ _ _ _ _ hrv).1
    rw [List.length_drop, HL.out] at hkl
    have hk : 5 + k ≤ n := by omega
    have HRV2 := Lib.hid hrv
    have ho := HO.out
    rw [hrv] at ho
    simp only at ho
    have HO2 := Lib.hid ho
    clear hkl hrv ho
    by_cases hbig : 16777216 < m
    · have HO3 := Lib.hid (HO2.out.trans (if_pos hbig))
      refine none_mono 22 (HP0 22 · · HO3.out) ?_
      clear HP0
      go_enter Try.func48, Try.ntmps48
      go_wp2_with fail
      refine HRV.out.mono ?_; rintro e w1 ⟨rfl, rfl⟩
      go_wp2_with fail
      go_ret3
      exact ⟨rfl, rfl⟩
    have HO3 := Lib.hid (HO2.out.trans (if_neg hbig))
    obtain ⟨E, hE⟩ : ∃ E, E = 5 + k + m := ⟨_, rfl⟩
    by_cases hlen : n = E + 4
    · have ho4 := HO3.out.trans (if_neg (by rw [HL.out]; omega))
      rw [← hE] at ho4
      have HO4 := Lib.hid ho4
      clear ho4
      have rE : Rd w 1 (.slice (some ⟨b, off, none⟩) E vc) E (byt (ys.take E)) := by
        have := R.out.take E vc (by omega) (by omega) (Nat.le_refl _)
        rwa [Nat.mul_one, byt, ← List.map_take] at this
      have rD : Rd w 1 (.slice (some ⟨b, off + E, none⟩) (n - E) (vc - E)) (n - E) (byt (ys.drop E)) := by
        have := R.out.drop E (by omega)
        rwa [Nat.mul_one, byt, ← List.map_drop] at this
      have hbE : Bytes (ys.take E) := fun x hx => HB.out x (List.mem_of_mem_take hx)
      have hbD : Bytes (ys.drop E) := fun x hx => HB.out x (List.mem_of_mem_drop hx)
      have hsb := sumOf_bounds (ys.take E)
      obtain ⟨S, hS⟩ : ∃ S, S = sumOf (ys.take E) := ⟨_, rfl⟩
      have hsum := sum_any w.drew _ E _ ((Fr.refl (fun _ => False) w).drew.rd rE (fun _ _ h => h)) hbE
      rw [← hS] at hsum hsb
      obtain ⟨hs0, hs1⟩ := hsb
      have HSUM := Lib.hid hsum
      have RD := Lib.hid ((Fr.refl (fun _ => False) w).drew.rd rD (fun _ _ h => h))
      have HBD := Lib.hid hbD
      have hbF : Bytes (four S) := by intro x hx; simp only [four, List.mem_cons, List.not_mem_nil, or_false] at hx; omega
      have HBF := Lib.hid hbF
      have HSS := Lib.hid hS
      clear rE rD hbE hbD hS hsum hbF
      have eE : (5 : Int) + k + m = (E : Int) := by omega
      have g1 : (E : Int) ≤ n := by omega
      have g2 : (E : Int) ≤ vc := by omega
      have g3 : ¬ vc = E := by omega
      have hmi : IntKind.i64.wrap (m : Int) = m := by rw [IntWalk.i64_in _ (by omega)]
      have n1 : n ≤ E + 4 := by omega
      have n2 : E + 4 ≤ n := by omega
      have hq : ((n : Int) == (E : Int) + 4) = true := by simp; omega
      have n3 : E ≤ 5 + k + m := by omega
      have n4 : 5 + k + m ≤ E := by omega
      have HE := Lib.hid hE
      have HLEN := Lib.hid hlen
      clear hE hlen
      have rP : Rd w 1 (.slice (some ⟨b, off + (5 + k), none⟩) (E - (5 + k)) (vc - (5 + k))) (E - (5 + k)) (byt ((ys.drop (5 + k)).take m)) := by
        have h1 := R.out.drop (5 + k) (by omega)
        have h2 := h1.take (E - (5 + k)) (vc - (5 + k)) (by omega) (by omega) (Nat.le_refl _)
        rw [Nat.mul_one, Nat.mul_one, byt, ← List.map_drop, ← List.map_take, show E - (5 + k) = m by omega] at h2
        rw [show E - (5 + k) = m by omega]
        exact h2
      have RP := Lib.hid rP
      obtain ⟨y4, hy4⟩ : ∃ y4, y4 = ys.getD 4 0 := ⟨_, rfl⟩
      have hc4 : w.cell? ⟨b, off + 4, none⟩ = some (.int .u8 y4) := by rw [hy4]; exact HCE.out 4 _ (byt_get ys 4 (by rw [HL.out]; omega))
      have HC4 := Lib.hid hc4
      have HY4 := Lib.hid hy4
      clear rP hy4 hc4
      have t1 : ((5 : Int) + k).toNat = 5 + k := by omega
      have t2 : (0 : Int) ≤ (5 : Int) + k := by omega
      have t3 : (5 : Int) + k ≤ E := by omega
      have t4 : (5 : Int) + k ≤ vc := by omega
      have t5 : ¬ vc = 5 + k := by omega
      have t6 : 4 < (n : Int) := by omega
      have t7 : IntKind.i64.wrap (5 + (k : Int)) = 5 + k := by rw [IntWalk.i64_in _ (by omega)]
      by_cases hD : ys.drop E = four S
      · have qD : decide (ys.drop E = four S) = true := decide_eq_true hD
        have HQD := Lib.hid hD
        clear hD
        go_enter Try.func48, Try.ntmps48
        go_wp2_with fail
        refine HRV.out.mono ?_; rintro e w1 ⟨rfl, rfl⟩
        go_wp2_with fail
        go_region_with (first | (go_at_call 49; refine HSUM.out.mono ?_; rintro e w' ⟨rfl, rfl⟩) | (go_at_call 59; refine ownRet_mono (number_any _ S hs0 hs1) _ ?_; intro nb w5 ho5 b5; have rn := rd_of_owns ho5; have b5d := ((Below.refl w.heap.size w).drew.trans b5); have rd5 := RD.out.below b5 (Nat.le_refl _)) | (go_at_call 63; refine (equal_any _ _ _ _ _ _ _ rd5 rn HBD.out HBF.out).mono ?_; rintro e w' ⟨rfl, rfl⟩))
        all_goals
          go_wp2_with fail
          have hCL := cloneB_any w5.drew _ _ _ ((Fr.refl (fun _ => False) w5).drew.rd (RP.out.below b5d (Nat.le_refl _)) (fun _ _ h => h)) (by omega)
          have CL := Lib.hid hCL
          have c45 := cell_below b5d (Nat.le_refl _) HC4.out
          have B5 := Lib.hid b5d
          clear hCL b5d ho5 rn b5 rd5
          go_region_with (first | (go_at_call 64; refine ownRet_mono CL.out _ ?_; intro u6 w6 ho6 b6; have c46 := cell_below b6 (Nat.le_refl _) (show w5.drew.cell? _ = _ from c45)))
          all_goals
            go_wp2_with fail
            go_ret3
            have hfin : openB ys = (ys.getD 4 0, (ys.drop (5 + k)).take m, 0) := HO4.out.trans (if_neg (by rw [← HSS.out]; exact fun h => h HQD.out))
            have hl : ((ys.drop (5 + k)).take m).length = E - (5 + k) := by rw [List.length_take, List.length_drop, HL.out]; omega
            refine ⟨u6, ?_, ?_, B5.out.drew.trans (b6.mono B5.out.size)⟩
            · rw [hfin, ← HY4.out]; rfl
            · rw [hfin]
              show w6.ownsRow _ _ _ _ ((ys.drop (5 + k)).take m).length _
              rw [hl]
              exact owns_mono ho6 B5.out.size
      · have qD : decide (ys.drop E = four S) = false := decide_eq_false hD
        have HQD := Lib.hid hD
        clear hD
        go_enter Try.func48, Try.ntmps48
        go_wp2_with fail
        refine HRV.out.mono ?_; rintro e w1 ⟨rfl, rfl⟩
        go_wp2_with fail
        go_region_with (first | (go_at_call 49; refine HSUM.out.mono ?_; rintro e w' ⟨rfl, rfl⟩) | (go_at_call 59; refine ownRet_mono (number_any _ S hs0 hs1) _ ?_; intro nb w5 ho5 b5; have rn := rd_of_owns ho5; have b5d := ((Below.refl w.heap.size w).drew.trans b5); have rd5 := RD.out.below b5 (Nat.le_refl _)) | (go_at_call 63; refine (equal_any _ _ _ _ _ _ _ rd5 rn HBD.out HBF.out).mono ?_; rintro e w' ⟨rfl, rfl⟩))
        all_goals
          go_wp2_with fail
          go_ret3
          have ho21 : openB ys = (0, [], 21) := HO4.out.trans (if_pos (by rw [← HSS.out]; exact HQD.out))
          refine ⟨.slice none 0 0, ?_, ?_, b5d⟩
          · rw [ho21]; rfl
          · rw [ho21]; exact World.ownsRow_nil _ _ _ _
    · have HO4 := Lib.hid (HO3.out.trans (if_pos (by rw [HL.out]; omega)))
      refine none_mono 20 (HP0 20 · · HO4.out) ?_
      clear HP0
      have hne : ¬ (n : Int) = 5 + k + m + 4 := by omega
      have hq : ((n : Int) == 5 + k + m + 4) = false := by simp; omega
      go_enter Try.func48, Try.ntmps48
      go_wp2_with fail
      refine HRV.out.mono ?_; rintro e w1 ⟨rfl, rfl⟩
      go_wp2_with fail
      go_ret3
      exact ⟨rfl, rfl⟩
end Go.Proofs.Ytmdhiigonlnoiaa
