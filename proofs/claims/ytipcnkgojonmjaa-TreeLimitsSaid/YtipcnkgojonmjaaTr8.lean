/- Trees: how deep statements are. -/
import Derived.Test.YtipcnkgojonmjaaTr7
namespace Go.Proofs.Ytipcnkgojonmjaa
open Go.RowKit Go.Waf
set_option maxRecDepth 100000
set_option linter.unusedVariables false
set_option linter.unusedSimpArgs false

/-- How deep a statement is. -/
def St.nest : St → Nat
  | .none => 0
  | .mk _ _ _ nb bl b _ _ => maxN (fun j => maxN (fun i => (b j i).nest) (bl j)) nb + 1
def nestS (n : Nat) (f : Nat → St) : Nat := maxN (fun i => (f i).nest) n
theorem max_val1 (k : IntKind) (a b : Nat) : Value.int k (if (a : Int) < 1 + (b : Int) then 1 + (b : Int) else (a : Int)) = Value.int k ((max a (b + 1) : Nat) : Int) := by
  split
  · rw [Nat.max_eq_right (by omega)]; congr 1; omega
  · rw [Nat.max_eq_left (by omega)]
theorem maxS (u : Nat → Nat) : ∀ k, 0 < k → maxN (fun i => u i + 1) k = maxN u k + 1
  | 0, h => absurd h (by omega)
  | 1, _ => by show max 0 (u 0 + 1) = max 0 (u 0) + 1; omega
  | k + 2, _ => by
    have := maxS u (k + 1) (by omega)
    show max (maxN (fun i => u i + 1) (k + 1)) (u (k + 1) + 1) = max (maxN u (k + 1)) (u (k + 1)) + 1
    omega
theorem maxN_congr {f g : Nat → Nat} : ∀ {k : Nat}, (∀ j, j < k → f j = g j) → maxN f k = maxN g k
  | 0, _ => rfl
  | k + 1, h => by show max (maxN f k) (f k) = max (maxN g k) (g k); rw [maxN_congr fun j hj => h j (by omega), h k (by omega)]
theorem max1 (h : Nat → Nat) : ∀ k, max 1 (maxN (fun j => h j + 1) k) = maxN h k + 1
  | 0 => rfl
  | k + 1 => by
    have := max1 h k
    show max 1 (max (maxN (fun j => h j + 1) k) (h k + 1)) = max (maxN h k) (h k) + 1
    omega
theorem St.nest_eq {w : World} {s : St} {xv bv iv : Value} (h : StOk w s xv bv iv) : s.nest = maxN (fun j => nestS (s.bl j) (s.b j)) s.nb + 1 := by
  cases s with
  | none => exact h.elim
  | mk op nx x nb bl b ni is => rfl
def NestP (n : Nat) (f : Nat → St) : Prop := ∀ (w : World) (a : Option Addr) (c : Nat), n ≤ c → c ≤ 9223372036854775807 → StsAt w a n f → Calls Try.prog 9 #[.slice a n c] w fun en w' => en = .returned (.int .i64 (nestS n f : Int)) ∧ Below w.heap.size w w'
set_option maxHeartbeats 3200000 in
theorem nest_prog : ∀ d, d ≤ 1000000 → ∀ n f, nestS n f < d → NestP n f := by
  intro d
  induction d with
  | zero => intro _ n f h; exact absurd h (by omega)
  | succ d ih =>
  intro hd n f hn w a c h1 h2 hx
  obtain ⟨G, hG⟩ : ∃ G : Nat → Nat, G = fun i => (f i).nest := ⟨_, rfl⟩
  have HR := Lib.hid (show nestS n f = maxN G n from by rw [hG]; rfl)
  have hn1 : maxN G n ≤ d := by rw [← HR.out]; omega
  have HLE := Lib.hid (fun j (hj : j < n) => maxN_le (f := G) hj)
  have HMO := Lib.hid (fun j (hj : j ≤ n) => maxN_mono (f := G) hj)
  have HGJ := Lib.hid (fun i => show (f i).nest = G i from by rw [hG])
  have HI := Lib.hid (ih (by omega))
  have HX := Lib.hid hx
  rw [HR.out]
  clear hG hx ih hn
  go_enter Try.func9, Try.ntmps9
  go_wp2_with fail
  go_loopw [3, 10] (fun m z wr => ∃ i : Nat, i ≤ n ∧ z = .int .i64 (i : Int) ∧ m = .int .i64 (maxN G i : Int) ∧ Below w.heap.size w wr) (fun _ z _ => n - (intOf z).toNat)
  case atStart => exact ⟨0, by omega, rfl, rfl, Below.refl _ _⟩
  case round =>
    obtain ⟨i, hi, rfl, rfl, hb⟩ := hrel
    obtain ⟨wo, rfl⟩ : ∃ wo : World, wo = wr := ⟨_, rfl⟩
    by_cases hlt : i < n
    · obtain ⟨b, o, rfl, hc⟩ := HX.out (by omega)
      obtain ⟨xu, bu, iu, hok, hcc⟩ := hc i hlt
      have hse := St.nest_eq hok
      obtain ⟨⟨xa, xc, rfl, _, _, _⟩, ⟨ia, ic, rfl, _, _, _⟩, ba, bc, rfl, q1, q2, hbs⟩ := hok.open
      obtain ⟨d0, d1, d2, d3⟩ := hcc.below hb (Nat.le_refl _)
      obtain ⟨S, hS⟩ : ∃ S, S = f i := ⟨_, rfl⟩
      rw [HGJ.out i] at hse
      rw [← hS] at hse d0 d2 hbs q1
      obtain ⟨NB, hNB⟩ : ∃ k, k = S.nb := ⟨_, rfl⟩
      obtain ⟨H, hH⟩ : ∃ h : Nat → Nat, h = fun j => nestS (S.bl j) (S.b j) := ⟨_, rfl⟩
      rw [← hH, ← hNB] at hse
      rw [← hNB] at d2 q1 hbs
      have hle := HLE.out i hlt
      rw [hse] at hle
      have hmo := HMO.out i hi
      have HLE2 := Lib.hid hle
      have HHJ := Lib.hid (fun j => show nestS (S.bl j) (S.b j) = H j from by rw [hH])
      have HLH := Lib.hid (fun j (hj : j < NB) => maxN_le (f := H) hj)
      have HSE := Lib.hid hse
      have HBS := Lib.hid hbs
      have HB := Lib.hid hb
      have hsz := hb.size
      have HMS := Lib.hid (show maxN G (i + 1) = max (maxN G i) (G i) from rfl)
      obtain ⟨M, hM⟩ : ∃ M, M = maxN G i := ⟨_, rfl⟩
      have HML := Lib.hid (show maxN G i ≤ 1000000 from by omega)
      rw [← hM] at HMS HML
      rw [← hM]
      have hmm : M ≤ 1000000 := HML.out
      obtain ⟨op, hop⟩ : ∃ k, k = S.op := ⟨_, rfl⟩
      rw [← hop] at d0
      obtain ⟨NX, hNX⟩ : ∃ k, k = S.nx := ⟨_, rfl⟩
      obtain ⟨NI, hNI⟩ : ∃ k, k = S.ni := ⟨_, rfl⟩
      rw [← hS, ← hNX] at d1
      rw [← hS, ← hNI] at d3
      have hHN : maxN H NB ≤ 1000000 := by omega
      clear hNX hNI hc hok hcc hb hS hse hbs hle hmo hH hNB hM hop
      have HLX := Lib.hid (fun j (hj : j ≤ NB) => maxN_mono (f := fun j => H j + 1) hj)
      have HL1 := Lib.hid (max1 H NB)
      have hl1 : maxN (fun j => H j + 1) NB ≤ 1000001 := by have := HL1.out; omega
      by_cases hm1 : M < 1
      all_goals
        go_wp2_with fail
        have hwa : Below w.heap.size w (wo.alloc (.cells #[.int .i64 op, .slice xa NX xc, .slice ba NB bc, .slice ia NI ic] 40)) := HB.out.alloc hsz _
        have HWA := Lib.hid hwa
        clear hwa
        go_loopw [3, 19] (fun m z wr => ∃ j : Nat, j ≤ NB ∧ z = .int .i64 (j : Int) ∧ m = .int .i64 ((max (max M 1) (maxN (fun j => H j + 1) j) : Nat) : Int) ∧ Below w.heap.size w wr) (fun _ z _ => NB - (intOf z).toNat)
        case atStart => exact ⟨0, by omega, rfl, by rw [show max (max M 1) (maxN (fun j => H j + 1) 0) = max M 1 from by show max (max M 1) 0 = _; omega]; first | rw [show max M 1 = 1 from by omega]; rfl | rw [show max M 1 = M from by omega], HWA.out⟩
        case round =>
          obtain ⟨j, hj, rfl, rfl, hb2⟩ := hrel
          obtain ⟨wi, rfl⟩ : ∃ wi : World, wi = wr := ⟨_, rfl⟩
          obtain ⟨V, hV⟩ : ∃ V, V = max (max M 1) (maxN (fun j => H j + 1) j) := ⟨_, rfl⟩
          have HV := Lib.hid hV
          rw [← hV]
          have hv1 : V ≤ 1000001 := by have := HLX.out j hj; omega
          clear hV
          by_cases hl2 : j < NB
          · obtain ⟨b2, o2, rfl, hc2⟩ := HBS.out (by omega)
            obtain ⟨ja, jc, k1, k2, k3, k4⟩ := hc2 j hl2
            have e0 := cell_below hb2 (Nat.le_refl _) k1
            have hlh := HLH.out j hl2
            have HC := Lib.hid (HI.out (S.bl j) (S.b j) (by rw [HHJ.out]; have := HLE2.out; omega) wi ja jc k2 k3 (StsAt.below k4 hb2 (Nat.le_refl _)))
            rw [HHJ.out] at HC
            obtain ⟨BL, hBL⟩ : ∃ k, k = S.bl j := ⟨_, rfl⟩
            rw [← hBL] at HC e0
            have HB2 := Lib.hid hb2
            have HVS := Lib.hid (show max (max M 1) (maxN (fun j => H j + 1) (j + 1)) = max V (H j + 1) from by rw [HV.out]; show max (max M 1) (max (maxN (fun j => H j + 1) j) (H j + 1)) = _; omega)
            clear hc2 k1 k4 k2 k3 hb2 hBL
            go_wp2_with fail
            refine HC.out.mono ?_
            rintro en w2 ⟨rfl, hb3⟩
            have HB3 := Lib.hid (HB2.out.trans (hb3.mono HB2.out.size))
            clear hb3
            go_wp2_with fail
            go_roundw
            case rel => exact ⟨j + 1, by omega, by go_num, by rw [HVS.out]; exact max_val1 _ _ _, HB3.out⟩
            case measure => simp [intOf]; omega
          · obtain rfl : j = NB := by omega
            have HB2 := Lib.hid hb2
            clear hb2
            go_wp2_with fail
            go_roundw
            case rel => exact ⟨i + 1, by omega, by go_num, by rw [HMS.out, HSE.out, HV.out, show max M (maxN H j + 1) = max (max M 1) (maxN (fun j => H j + 1) j) from by have := HL1.out; omega], HB2.out⟩
            case measure => simp [intOf]; omega
    · obtain rfl : i = n := by omega
      have HB := Lib.hid hb
      clear hb
      go_wp2_with fail
      go_ret
      exact ⟨rfl, HB.out⟩
def NestR (n : Nat) (f : Nat → St) : Prop := ∀ (w : World) (a : Option Addr) (c : Nat), n ≤ c → c ≤ 9223372036854775807 → StsAt w a n f → Calls Try.prog 30 #[.slice a n c] w fun en w' => en = .returned (.int .i64 (nestS n f : Int)) ∧ Below w.heap.size w w'
set_option maxHeartbeats 3200000 in
theorem nest_ref : ∀ d, d ≤ 1000000 → ∀ n f, nestS n f < d → NestR n f := by
  intro d
  induction d with
  | zero => intro _ n f h; exact absurd h (by omega)
  | succ d ih =>
  intro hd n f hn w a c h1 h2 hx
  by_cases hn0 : n = 0
  · subst hn0
    go_enter Try.func30, Try.ntmps30
    go_wp2_with fail
    go_ret
    exact ⟨rfl, Below.refl _ _⟩
  have hnp : 0 < n := by omega
  have hnb : ((n : Int) == 0) = false := by simp; omega
  obtain ⟨U, hU⟩ : ∃ U : Nat → Nat, U = fun i => maxN (fun j => nestS ((f i).bl j) ((f i).b j)) (f i).nb := ⟨_, rfl⟩
  have heq : ∀ i, i < n → (f i).nest = U i + 1 := fun i hi => by
    obtain ⟨b, o, rfl, hc⟩ := hx hnp
    obtain ⟨xu, bu, iu, hok, hcc⟩ := hc i hi
    rw [St.nest_eq hok, hU]
  have HR := Lib.hid (show nestS n f = maxN U n + 1 from by
    rw [← maxS U n hnp]
    exact maxN_congr heq)
  have hn1 : maxN U n + 1 ≤ d := by rw [← HR.out]; omega
  have HLE := Lib.hid (fun j (hj : j < n) => maxN_le (f := U) hj)
  have HMO := Lib.hid (fun j (hj : j ≤ n) => maxN_mono (f := U) hj)
  have HUJ := Lib.hid (fun i => show maxN (fun j => nestS ((f i).bl j) ((f i).b j)) (f i).nb = U i from by rw [hU])
  have HI := Lib.hid (ih (by omega))
  have HX := Lib.hid hx
  rw [HR.out]
  clear hU hx ih hn heq
  go_enter Try.func30, Try.ntmps30
  go_wp2_with fail
  go_loopw [3, 4] (fun m z wr => ∃ i : Nat, i ≤ n ∧ z = .int .i64 (i : Int) ∧ m = .int .i64 (maxN U i : Int) ∧ Below w.heap.size w wr) (fun _ z _ => n - (intOf z).toNat)
  case atStart => exact ⟨0, by omega, rfl, rfl, Below.refl _ _⟩
  case round =>
    obtain ⟨i, hi, rfl, rfl, hb⟩ := hrel
    obtain ⟨wo, rfl⟩ : ∃ wo : World, wo = wr := ⟨_, rfl⟩
    by_cases hlt : i < n
    · obtain ⟨b, o, rfl, hc⟩ := HX.out (by omega)
      obtain ⟨xu, bu, iu, hok, hcc⟩ := hc i hlt
      obtain ⟨_, _, ba, bc, rfl, q1, q2, hbs⟩ := hok.open
      have hd2 := hcc.c2
      obtain ⟨S, hS⟩ : ∃ S, S = f i := ⟨_, rfl⟩
      have hle := HLE.out i hlt
      have hse := HUJ.out i
      rw [← hS] at hse hd2 hbs q1
      obtain ⟨NB, hNB⟩ : ∃ k, k = S.nb := ⟨_, rfl⟩
      obtain ⟨H, hH⟩ : ∃ h : Nat → Nat, h = fun j => nestS (S.bl j) (S.b j) := ⟨_, rfl⟩
      rw [← hH, ← hNB] at hse
      rw [← hNB] at hd2 q1 hbs
      rw [← hse] at hle
      have HLE2 := Lib.hid hle
      have HHJ := Lib.hid (fun j => show nestS (S.bl j) (S.b j) = H j from by rw [hH])
      have HLH := Lib.hid (fun j (hj : j < NB) => maxN_le (f := H) hj)
      have HLX := Lib.hid (fun j (hj : j ≤ NB) => maxN_mono (f := H) hj)
      have HSE := Lib.hid hse
      have HBS := Lib.hid hbs
      have HD2 := Lib.hid hd2
      have HB := Lib.hid hb
      have HMS := Lib.hid (show maxN U (i + 1) = max (maxN U i) (U i) from rfl)
      obtain ⟨M, hM⟩ : ∃ M, M = maxN U i := ⟨_, rfl⟩
      have HML := Lib.hid (show maxN U i ≤ 1000000 from by have := HMO.out i hi; omega)
      rw [← hM] at HMS HML
      rw [← hM]
      have hmm : M ≤ 1000000 := HML.out
      have hHN : maxN H NB ≤ 1000000 := by omega
      clear hc hok hcc hb hS hse hbs hle hH hNB hM hd2
      go_wp2_with fail
      go_loopw [3, 5] (fun m z wr => ∃ j : Nat, j ≤ NB ∧ z = .int .i64 (j : Int) ∧ m = .int .i64 ((max M (maxN H j) : Nat) : Int) ∧ Below w.heap.size w wr) (fun _ z _ => NB - (intOf z).toNat)
      case atStart => exact ⟨0, by omega, rfl, by rw [show max M (maxN H 0) = M from by show max M 0 = M; omega], HB.out⟩
      case round =>
          obtain ⟨j, hj, rfl, rfl, hb2⟩ := hrel
          obtain ⟨wi, rfl⟩ : ∃ wi : World, wi = wr := ⟨_, rfl⟩
          obtain ⟨V, hV⟩ : ∃ V, V = max M (maxN H j) := ⟨_, rfl⟩
          have HV := Lib.hid hV
          rw [← hV]
          have hv1 : V ≤ 1000001 := by have := HLX.out j hj; omega
          have f2 := cell_below hb2 (Nat.le_refl _) HD2.out
          clear hV
          by_cases hl2 : j < NB
          · obtain ⟨b2, o2, rfl, hc2⟩ := HBS.out (by omega)
            obtain ⟨ja, jc, k1, k2, k3, k4⟩ := hc2 j hl2
            have e0 := cell_below hb2 (Nat.le_refl _) k1
            have hlh := HLH.out j hl2
            have HC := Lib.hid (HI.out (S.bl j) (S.b j) (by rw [HHJ.out]; have := HLE2.out; omega) wi ja jc k2 k3 (StsAt.below k4 hb2 (Nat.le_refl _)))
            rw [HHJ.out] at HC
            obtain ⟨BL, hBL⟩ : ∃ k, k = S.bl j := ⟨_, rfl⟩
            rw [← hBL] at HC e0
            have HB2 := Lib.hid hb2
            have HVS := Lib.hid (show max M (maxN H (j + 1)) = max V (H j) from by rw [HV.out]; show max M (max (maxN H j) (H j)) = _; omega)
            clear hc2 k1 k4 k2 k3 hb2 hBL
            go_wp2_with fail
            refine HC.out.mono ?_
            rintro en w2 ⟨rfl, hb3⟩
            have HB3 := Lib.hid (HB2.out.trans (hb3.mono HB2.out.size))
            clear hb3
            go_wp2_with fail
            go_roundw
            case rel => exact ⟨j + 1, by omega, by go_num, by rw [HVS.out]; exact max_val _ _ _, HB3.out⟩
            case measure => simp [intOf]; omega
          · obtain rfl : j = NB := by omega
            have HB2 := Lib.hid hb2
            clear hb2
            go_wp2_with fail
            go_roundw
            case rel => exact ⟨i + 1, by omega, by go_num, by rw [HMS.out, ← HSE.out, HV.out], HB2.out⟩
            case measure => simp [intOf]; omega
    · obtain rfl : i = n := by omega
      have HB := Lib.hid hb
      clear hb
      go_wp2_with fail
      go_ret
      exact ⟨rfl, HB.out⟩
end Go.Proofs.Ytipcnkgojonmjaa
