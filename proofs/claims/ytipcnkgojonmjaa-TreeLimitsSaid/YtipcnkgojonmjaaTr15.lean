/- Trees: are lists alike, one by one? (Printed by wip/scripts/gen_tr15.py.) -/
import Derived.Test.YtipcnkgojonmjaaTr14
namespace Go.Proofs.Ytipcnkgojonmjaa
open Go.RowKit Go.Waf
set_option maxRecDepth 100000
set_option linter.unusedVariables false
set_option linter.unusedSimpArgs false

/-- What a function says of each two of two lists' types. -/
def EqsTy (fid : Nat) (k : Nat) (x y : Nat → Ty) (p : Nat → Bool) (w0 : World) : Prop := ∀ (W : World) (j : Nat) (u v : Value), j < k → TyOk W (x j) u → TyOk W (y j) v → Below w0.heap.size w0 W → Calls Try.prog fid #[tyV (x j) u, tyV (y j) v] W fun en w' => en = .returned (.bool (p j)) ∧ Below W.heap.size W w'
set_option maxHeartbeats 3200000 in
theorem equal_Ty (w : World) (fid : Nat) (a a' : Option Addr) (k c k' c' : Nat) (x y : Nat → Ty) (p : Nat → Bool) (h : TysAt w a k x) (h' : TysAt w a' k' y) (h1 : k ≤ c) (h2 : c ≤ 9223372036854775807) (h3 : k' ≤ c') (h4 : c' ≤ 9223372036854775807) (hf : k = k' → EqsTy fid k x y p w) (eg : ∀ args w, (callFunc fid args).run Try.prog w = .ok (.enter fid args) w) :
    Calls Try.prog 89 #[.slice a k c, .slice a' k' c', .func (.func fid) #[] #[]] w fun en w' => en = .returned (.bool (decide (k = k') && !anyB (fun j => !p j) k)) ∧ Below w.heap.size w w' := by
  by_cases hk : k = k'
  · subst hk
    obtain ⟨P, hP⟩ : ∃ P : Nat → Bool, P = fun j => !p j := ⟨_, rfl⟩
    have HPJ := Lib.hid (show ∀ j, p j = !P j from fun j => by rw [hP]; simp)
    obtain ⟨R, hR⟩ : ∃ R, R = (decide (k = k) && !anyB P k) := ⟨_, rfl⟩
    have HR2 := Lib.hid (show R = !anyB P k from by rw [hR]; simp)
    rw [← hP, ← hR]
    have H := Lib.hid h
    have H' := Lib.hid h'
    have HF := Lib.hid (hf rfl)
    clear h h' hf hP hR
    go_enter Try.func89, Try.ntmps89
    go_wp2_with fail
    go_loopw [17] (fun z wr => ∃ j : Nat, j ≤ k ∧ z = .int .i64 (j : Int) ∧ (∀ i, i < j → P i = false) ∧ Below w.heap.size w wr) (fun z _ => k - (intOf z).toNat)
    case atStart => exact ⟨0, by omega, rfl, fun i hi => absurd hi (by omega), Below.refl _ _⟩
    case round =>
      obtain ⟨j, hj, rfl, hno, hb⟩ := hrel
      obtain ⟨wo, rfl⟩ : ∃ wo : World, wo = wr := ⟨_, rfl⟩
      by_cases hlt : j < k
      · obtain ⟨b, o, rfl, hc⟩ := H.out (by omega)
        obtain ⟨b', o', rfl, hc'⟩ := H'.out (by omega)
        obtain ⟨u, hok, p0, p1, p2, p3⟩ := hc j hlt
        obtain ⟨v, hok', q0, q1, q2, q3⟩ := hc' j hlt
        have c0 := cell_below hb (Nat.le_refl _) p0
        have c1 := cell_below hb (Nat.le_refl _) p1
        have c2 := cell_below hb (Nat.le_refl _) p2
        have c3 := cell_below hb (Nat.le_refl _) p3
        have d0 := cell_below hb (Nat.le_refl _) q0
        have d1 := cell_below hb (Nat.le_refl _) q1
        have d2 := cell_below hb (Nat.le_refl _) q2
        have d3 := cell_below hb (Nat.le_refl _) q3
        have HC := Lib.hid (fun W (hbw : Below w.heap.size w W) => HF.out W j u v hlt (TyOk.below hbw (Nat.le_refl _) _ _ hok) (TyOk.below hbw (Nat.le_refl _) _ _ hok') hbw)
        obtain ⟨ua, uc, rfl, _, _⟩ := hok.shape
        obtain ⟨va, vc, rfl, _, _⟩ := hok'.shape
        obtain ⟨E, hE⟩ : ∃ E, E = x j := ⟨_, rfl⟩
        obtain ⟨D, hD⟩ : ∃ E, E = y j := ⟨_, rfl⟩
        rw [← hE, ← hD] at HC
        rw [← hE] at c0 c1 c2 c3
        rw [← hD] at d0 d1 d2 d3
        unfold tyV at HC
        clear hok hok' p0 p1 p2 p3 q0 q1 q2 q3 hE hD
        have HNO := Lib.hid hno
        have HB := Lib.hid hb
        have hsz := hb.size
        have hlb : b < wo.heap.size := World.block_lt_of_cell? _ _ c0
        have hlb' : b' < wo.heap.size := World.block_lt_of_cell? _ _ d0
        clear hc hc' hno hb
        have hpj := HPJ.out j
        cases hp : P j
        · have HP := Lib.hid hp
          rw [hpj, hp] at HC
          clear hp hpj
          go_wp2_with fail
          refine (HC.out _ ((HB.out.alloc hsz _).alloc (by simp; omega) _)).mono ?_
          rintro en w2 ⟨rfl, hb2⟩
          have HB2 := Lib.hid ((HB.out.alloc hsz _ |>.alloc (by simp; omega) _).trans (hb2.mono (by simp; omega)))
          clear hb2
          go_wp2_with fail
          go_roundw
          case rel => exact ⟨j + 1, by omega, by go_num, fun i hi => by
            rcases Nat.lt_succ_iff_lt_or_eq.1 hi with h | h
            · exact HNO.out i h
            · rw [h]; exact HP.out, HB2.out⟩
          case measure => simp [intOf]; omega
        · have HP := Lib.hid (show R = false from by rw [HR2.out, anyB_true hlt hp]; rfl)
          rw [hpj, hp] at HC
          clear hp hpj
          go_wp2_with fail
          refine (HC.out _ ((HB.out.alloc hsz _).alloc (by simp; omega) _)).mono ?_
          rintro en w2 ⟨rfl, hb2⟩
          have HB2 := Lib.hid ((HB.out.alloc hsz _ |>.alloc (by simp; omega) _).trans (hb2.mono (by simp; omega)))
          clear hb2
          go_wp2_with fail
          go_ret
          exact ⟨by rw [HP.out]; rfl, HB2.out⟩
      · obtain rfl : j = k := by omega
        have HP := Lib.hid (show R = true from by rw [HR2.out, anyB_false hno]; rfl)
        have HB := Lib.hid hb
        clear hno hb
        go_wp2_with fail
        go_ret
        exact ⟨by rw [HP.out]; rfl, HB.out⟩
  · rw [show decide (k = k') = false from decide_eq_false hk]
    have hne : ((k : Int) == (k' : Int)) = false := by simp; omega
    have hn2 : ((k : Int) != (k' : Int)) = true := by simp; omega
    clear h h' hf
    go_enter Try.func89, Try.ntmps89
    go_wp2_with fail
    go_ret
    exact ⟨rfl, Below.refl _ _⟩
/-- What a function says of each two of two lists' expressions. -/
def EqsEx (fid : Nat) (k : Nat) (x y : Nat → Ex) (p : Nat → Bool) (w0 : World) : Prop := ∀ (W : World) (j : Nat) (tu xu tv xv : Value), j < k → ExOk W (x j) tu xu → ExOk W (y j) tv xv → Below w0.heap.size w0 W → Calls Try.prog fid #[exV (x j) tu xu, exV (y j) tv xv] W fun en w' => en = .returned (.bool (p j)) ∧ Below W.heap.size W w'
set_option maxHeartbeats 3200000 in
theorem equal_Ex (w : World) (fid : Nat) (a a' : Option Addr) (k c k' c' : Nat) (x y : Nat → Ex) (p : Nat → Bool) (h : ExsAt w a k x) (h' : ExsAt w a' k' y) (h1 : k ≤ c) (h2 : c ≤ 9223372036854775807) (h3 : k' ≤ c') (h4 : c' ≤ 9223372036854775807) (hf : k = k' → EqsEx fid k x y p w) (eg : ∀ args w, (callFunc fid args).run Try.prog w = .ok (.enter fid args) w) :
    Calls Try.prog 57 #[.slice a k c, .slice a' k' c', .func (.func fid) #[] #[]] w fun en w' => en = .returned (.bool (decide (k = k') && !anyB (fun j => !p j) k)) ∧ Below w.heap.size w w' := by
  by_cases hk : k = k'
  · subst hk
    obtain ⟨P, hP⟩ : ∃ P : Nat → Bool, P = fun j => !p j := ⟨_, rfl⟩
    have HPJ := Lib.hid (show ∀ j, p j = !P j from fun j => by rw [hP]; simp)
    obtain ⟨R, hR⟩ : ∃ R, R = (decide (k = k) && !anyB P k) := ⟨_, rfl⟩
    have HR2 := Lib.hid (show R = !anyB P k from by rw [hR]; simp)
    rw [← hP, ← hR]
    have H := Lib.hid h
    have H' := Lib.hid h'
    have HF := Lib.hid (hf rfl)
    clear h h' hf hP hR
    go_enter Try.func57, Try.ntmps57
    go_wp2_with fail
    go_loopw [17] (fun z wr => ∃ j : Nat, j ≤ k ∧ z = .int .i64 (j : Int) ∧ (∀ i, i < j → P i = false) ∧ Below w.heap.size w wr) (fun z _ => k - (intOf z).toNat)
    case atStart => exact ⟨0, by omega, rfl, fun i hi => absurd hi (by omega), Below.refl _ _⟩
    case round =>
      obtain ⟨j, hj, rfl, hno, hb⟩ := hrel
      obtain ⟨wo, rfl⟩ : ∃ wo : World, wo = wr := ⟨_, rfl⟩
      by_cases hlt : j < k
      · obtain ⟨b, o, rfl, hc⟩ := H.out (by omega)
        obtain ⟨b', o', rfl, hc'⟩ := H'.out (by omega)
        obtain ⟨tu, xu, hok, hcc⟩ := hc j hlt
        obtain ⟨tv, xv, hok', hcc'⟩ := hc' j hlt
        obtain ⟨c0, c1, c2, c3, c4, c5, c6, c7⟩ := hcc.below hb (Nat.le_refl _)
        obtain ⟨d0, d1, d2, d3, d4, d5, d6, d7⟩ := hcc'.below hb (Nat.le_refl _)
        have HC := Lib.hid (fun W (hbw : Below w.heap.size w W) => HF.out W j tu xu tv xv hlt (ExOk.below hbw (Nat.le_refl _) _ _ _ hok) (ExOk.below hbw (Nat.le_refl _) _ _ _ hok') hbw)
        obtain ⟨ua, uc, rfl, _, _⟩ := hok.ty.shape
        obtain ⟨va, vc, rfl, _, _⟩ := hok'.ty.shape
        obtain ⟨ua2, uc2, rfl, _, _, _⟩ := hok.shape
        obtain ⟨va2, vc2, rfl, _, _, _⟩ := hok'.shape
        obtain ⟨E, hE⟩ : ∃ E, E = x j := ⟨_, rfl⟩
        obtain ⟨D, hD⟩ : ∃ E, E = y j := ⟨_, rfl⟩
        rw [← hE, ← hD] at HC
        rw [← hE] at c0 c1 c2 c3 c4 c5 c6 c7
        rw [← hD] at d0 d1 d2 d3 d4 d5 d6 d7
        unfold exV at HC
        clear hok hok' hcc hcc' hE hD
        have HNO := Lib.hid hno
        have HB := Lib.hid hb
        have hsz := hb.size
        have hlb : b < wo.heap.size := World.block_lt_of_cell? _ _ c0
        have hlb' : b' < wo.heap.size := World.block_lt_of_cell? _ _ d0
        clear hc hc' hno hb
        have hpj := HPJ.out j
        cases hp : P j
        · have HP := Lib.hid hp
          rw [hpj, hp] at HC
          clear hp hpj
          go_wp2_with fail
          refine (HC.out _ ((HB.out.alloc hsz _).alloc (by simp; omega) _)).mono ?_
          rintro en w2 ⟨rfl, hb2⟩
          have HB2 := Lib.hid ((HB.out.alloc hsz _ |>.alloc (by simp; omega) _).trans (hb2.mono (by simp; omega)))
          clear hb2
          go_wp2_with fail
          go_roundw
          case rel => exact ⟨j + 1, by omega, by go_num, fun i hi => by
            rcases Nat.lt_succ_iff_lt_or_eq.1 hi with h | h
            · exact HNO.out i h
            · rw [h]; exact HP.out, HB2.out⟩
          case measure => simp [intOf]; omega
        · have HP := Lib.hid (show R = false from by rw [HR2.out, anyB_true hlt hp]; rfl)
          rw [hpj, hp] at HC
          clear hp hpj
          go_wp2_with fail
          refine (HC.out _ ((HB.out.alloc hsz _).alloc (by simp; omega) _)).mono ?_
          rintro en w2 ⟨rfl, hb2⟩
          have HB2 := Lib.hid ((HB.out.alloc hsz _ |>.alloc (by simp; omega) _).trans (hb2.mono (by simp; omega)))
          clear hb2
          go_wp2_with fail
          go_ret
          exact ⟨by rw [HP.out]; rfl, HB2.out⟩
      · obtain rfl : j = k := by omega
        have HP := Lib.hid (show R = true from by rw [HR2.out, anyB_false hno]; rfl)
        have HB := Lib.hid hb
        clear hno hb
        go_wp2_with fail
        go_ret
        exact ⟨by rw [HP.out]; rfl, HB.out⟩
  · rw [show decide (k = k') = false from decide_eq_false hk]
    have hne : ((k : Int) == (k' : Int)) = false := by simp; omega
    have hn2 : ((k : Int) != (k' : Int)) = true := by simp; omega
    clear h h' hf
    go_enter Try.func57, Try.ntmps57
    go_wp2_with fail
    go_ret
    exact ⟨rfl, Below.refl _ _⟩
/-- What a function says of each two of two lists' statements. -/
def EqsSt (fid : Nat) (k : Nat) (x y : Nat → St) (p : Nat → Bool) (w0 : World) : Prop := ∀ (W : World) (j : Nat) (xu bu iu xv bv iv : Value), j < k → StOk W (x j) xu bu iu → StOk W (y j) xv bv iv → Below w0.heap.size w0 W → Calls Try.prog fid #[stV (x j) xu bu iu, stV (y j) xv bv iv] W fun en w' => en = .returned (.bool (p j)) ∧ Below W.heap.size W w'
set_option maxHeartbeats 3200000 in
theorem equal_St (w : World) (fid : Nat) (a a' : Option Addr) (k c k' c' : Nat) (x y : Nat → St) (p : Nat → Bool) (h : StsAt w a k x) (h' : StsAt w a' k' y) (h1 : k ≤ c) (h2 : c ≤ 9223372036854775807) (h3 : k' ≤ c') (h4 : c' ≤ 9223372036854775807) (hf : k = k' → EqsSt fid k x y p w) (eg : ∀ args w, (callFunc fid args).run Try.prog w = .ok (.enter fid args) w) :
    Calls Try.prog 58 #[.slice a k c, .slice a' k' c', .func (.func fid) #[] #[]] w fun en w' => en = .returned (.bool (decide (k = k') && !anyB (fun j => !p j) k)) ∧ Below w.heap.size w w' := by
  by_cases hk : k = k'
  · subst hk
    obtain ⟨P, hP⟩ : ∃ P : Nat → Bool, P = fun j => !p j := ⟨_, rfl⟩
    have HPJ := Lib.hid (show ∀ j, p j = !P j from fun j => by rw [hP]; simp)
    obtain ⟨R, hR⟩ : ∃ R, R = (decide (k = k) && !anyB P k) := ⟨_, rfl⟩
    have HR2 := Lib.hid (show R = !anyB P k from by rw [hR]; simp)
    rw [← hP, ← hR]
    have H := Lib.hid h
    have H' := Lib.hid h'
    have HF := Lib.hid (hf rfl)
    clear h h' hf hP hR
    go_enter Try.func58, Try.ntmps58
    go_wp2_with fail
    go_loopw [17] (fun z wr => ∃ j : Nat, j ≤ k ∧ z = .int .i64 (j : Int) ∧ (∀ i, i < j → P i = false) ∧ Below w.heap.size w wr) (fun z _ => k - (intOf z).toNat)
    case atStart => exact ⟨0, by omega, rfl, fun i hi => absurd hi (by omega), Below.refl _ _⟩
    case round =>
      obtain ⟨j, hj, rfl, hno, hb⟩ := hrel
      obtain ⟨wo, rfl⟩ : ∃ wo : World, wo = wr := ⟨_, rfl⟩
      by_cases hlt : j < k
      · obtain ⟨b, o, rfl, hc⟩ := H.out (by omega)
        obtain ⟨b', o', rfl, hc'⟩ := H'.out (by omega)
        obtain ⟨xu, bu, iu, hok, hcc⟩ := hc j hlt
        obtain ⟨xv, bv, iv, hok', hcc'⟩ := hc' j hlt
        obtain ⟨c0, c1, c2, c3⟩ := hcc.below hb (Nat.le_refl _)
        obtain ⟨d0, d1, d2, d3⟩ := hcc'.below hb (Nat.le_refl _)
        have HC := Lib.hid (fun W (hbw : Below w.heap.size w W) => HF.out W j xu bu iu xv bv iv hlt (StOk.below hbw (Nat.le_refl _) _ _ _ _ hok) (StOk.below hbw (Nat.le_refl _) _ _ _ _ hok') hbw)
        obtain ⟨⟨xa, xc, rfl, _, _, _⟩, ⟨ia, ic, rfl, _, _, _⟩, ba, bc, rfl, _, _, _⟩ := hok.open
        obtain ⟨⟨ya, yc, rfl, _, _, _⟩, ⟨ja, jc, rfl, _, _, _⟩, ea, ec, rfl, _, _, _⟩ := hok'.open
        obtain ⟨E, hE⟩ : ∃ E, E = x j := ⟨_, rfl⟩
        obtain ⟨D, hD⟩ : ∃ E, E = y j := ⟨_, rfl⟩
        rw [← hE, ← hD] at HC
        rw [← hE] at c0 c1 c2 c3
        rw [← hD] at d0 d1 d2 d3
        unfold stV at HC
        clear hok hok' hcc hcc' hE hD
        have HNO := Lib.hid hno
        have HB := Lib.hid hb
        have hsz := hb.size
        have hlb : b < wo.heap.size := World.block_lt_of_cell? _ _ c0
        have hlb' : b' < wo.heap.size := World.block_lt_of_cell? _ _ d0
        clear hc hc' hno hb
        have hpj := HPJ.out j
        cases hp : P j
        · have HP := Lib.hid hp
          rw [hpj, hp] at HC
          clear hp hpj
          go_wp2_with fail
          refine (HC.out _ ((HB.out.alloc hsz _).alloc (by simp; omega) _)).mono ?_
          rintro en w2 ⟨rfl, hb2⟩
          have HB2 := Lib.hid ((HB.out.alloc hsz _ |>.alloc (by simp; omega) _).trans (hb2.mono (by simp; omega)))
          clear hb2
          go_wp2_with fail
          go_roundw
          case rel => exact ⟨j + 1, by omega, by go_num, fun i hi => by
            rcases Nat.lt_succ_iff_lt_or_eq.1 hi with h | h
            · exact HNO.out i h
            · rw [h]; exact HP.out, HB2.out⟩
          case measure => simp [intOf]; omega
        · have HP := Lib.hid (show R = false from by rw [HR2.out, anyB_true hlt hp]; rfl)
          rw [hpj, hp] at HC
          clear hp hpj
          go_wp2_with fail
          refine (HC.out _ ((HB.out.alloc hsz _).alloc (by simp; omega) _)).mono ?_
          rintro en w2 ⟨rfl, hb2⟩
          have HB2 := Lib.hid ((HB.out.alloc hsz _ |>.alloc (by simp; omega) _).trans (hb2.mono (by simp; omega)))
          clear hb2
          go_wp2_with fail
          go_ret
          exact ⟨by rw [HP.out]; rfl, HB2.out⟩
      · obtain rfl : j = k := by omega
        have HP := Lib.hid (show R = true from by rw [HR2.out, anyB_false hno]; rfl)
        have HB := Lib.hid hb
        clear hno hb
        go_wp2_with fail
        go_ret
        exact ⟨by rw [HP.out]; rfl, HB.out⟩
  · rw [show decide (k = k') = false from decide_eq_false hk]
    have hne : ((k : Int) == (k' : Int)) = false := by simp; omega
    have hn2 : ((k : Int) != (k' : Int)) = true := by simp; omega
    clear h h' hf
    go_enter Try.func58, Try.ntmps58
    go_wp2_with fail
    go_ret
    exact ⟨rfl, Below.refl _ _⟩
/-- What a function says of each two of two lists' bodies. -/
def EqsBs (fid : Nat) (k : Nat) (bl bl2 : Nat → Nat) (x y : Nat → Nat → St) (p : Nat → Bool) (w0 : World) : Prop := ∀ (W : World) (j : Nat) (ja ja2 : Option Addr) (jc jc2 : Nat), j < k → bl j ≤ jc → jc ≤ 9223372036854775807 → bl2 j ≤ jc2 → jc2 ≤ 9223372036854775807 → StsAt W ja (bl j) (x j) → StsAt W ja2 (bl2 j) (y j) → Below w0.heap.size w0 W → Calls Try.prog fid #[.slice ja (bl j) jc, .slice ja2 (bl2 j) jc2] W fun en w' => en = .returned (.bool (p j)) ∧ Below W.heap.size W w'
set_option maxHeartbeats 3200000 in
theorem equal_Bs (w : World) (fid : Nat) (a a' : Option Addr) (k c k' c' : Nat) (bl bl2 : Nat → Nat) (x y : Nat → Nat → St) (p : Nat → Bool) (h : BsAt w a k bl x) (h' : BsAt w a' k' bl2 y) (h1 : k ≤ c) (h2 : c ≤ 9223372036854775807) (h3 : k' ≤ c') (h4 : c' ≤ 9223372036854775807) (hf : k = k' → EqsBs fid k bl bl2 x y p w) (eg : ∀ args w, (callFunc fid args).run Try.prog w = .ok (.enter fid args) w) :
    Calls Try.prog 90 #[.slice a k c, .slice a' k' c', .func (.func fid) #[] #[]] w fun en w' => en = .returned (.bool (decide (k = k') && !anyB (fun j => !p j) k)) ∧ Below w.heap.size w w' := by
  by_cases hk : k = k'
  · subst hk
    obtain ⟨P, hP⟩ : ∃ P : Nat → Bool, P = fun j => !p j := ⟨_, rfl⟩
    have HPJ := Lib.hid (show ∀ j, p j = !P j from fun j => by rw [hP]; simp)
    obtain ⟨R, hR⟩ : ∃ R, R = (decide (k = k) && !anyB P k) := ⟨_, rfl⟩
    have HR2 := Lib.hid (show R = !anyB P k from by rw [hR]; simp)
    rw [← hP, ← hR]
    have H := Lib.hid h
    have H' := Lib.hid h'
    have HF := Lib.hid (hf rfl)
    clear h h' hf hP hR
    go_enter Try.func90, Try.ntmps90
    go_wp2_with fail
    go_loopw [17] (fun z wr => ∃ j : Nat, j ≤ k ∧ z = .int .i64 (j : Int) ∧ (∀ i, i < j → P i = false) ∧ Below w.heap.size w wr) (fun z _ => k - (intOf z).toNat)
    case atStart => exact ⟨0, by omega, rfl, fun i hi => absurd hi (by omega), Below.refl _ _⟩
    case round =>
      obtain ⟨j, hj, rfl, hno, hb⟩ := hrel
      obtain ⟨wo, rfl⟩ : ∃ wo : World, wo = wr := ⟨_, rfl⟩
      by_cases hlt : j < k
      · obtain ⟨b, o, rfl, hc⟩ := H.out (by omega)
        obtain ⟨b', o', rfl, hc'⟩ := H'.out (by omega)
        obtain ⟨ja, jc, p0, q1, q2, hok⟩ := hc j hlt
        obtain ⟨ja2, jc2, p0', q1', q2', hok'⟩ := hc' j hlt
        have c0 := cell_below hb (Nat.le_refl _) p0
        have d0 := cell_below hb (Nat.le_refl _) p0'
        have HC := Lib.hid (fun W (hbw : Below w.heap.size w W) => HF.out W j ja ja2 jc jc2 hlt q1 q2 q1' q2' (StsAt.below hok hbw (Nat.le_refl _)) (StsAt.below hok' hbw (Nat.le_refl _)) hbw)
        obtain ⟨L, hL⟩ : ∃ L, L = bl j := ⟨_, rfl⟩
        obtain ⟨L2, hL2⟩ : ∃ L, L = bl2 j := ⟨_, rfl⟩
        rw [← hL, ← hL2] at HC
        rw [← hL] at c0
        rw [← hL2] at d0
        clear hok hok' p0 p0' q1 q2 q1' q2' hL hL2
        have HNO := Lib.hid hno
        have HB := Lib.hid hb
        have hsz := hb.size
        have hlb : b < wo.heap.size := World.block_lt_of_cell? _ _ c0
        have hlb' : b' < wo.heap.size := World.block_lt_of_cell? _ _ d0
        clear hc hc' hno hb
        have hpj := HPJ.out j
        cases hp : P j
        · have HP := Lib.hid hp
          rw [hpj, hp] at HC
          clear hp hpj
          go_wp2_with fail
          refine (HC.out _ HB.out).mono ?_
          rintro en w2 ⟨rfl, hb2⟩
          have HB2 := Lib.hid (HB.out.trans (hb2.mono hsz))
          clear hb2
          go_wp2_with fail
          go_roundw
          case rel => exact ⟨j + 1, by omega, by go_num, fun i hi => by
            rcases Nat.lt_succ_iff_lt_or_eq.1 hi with h | h
            · exact HNO.out i h
            · rw [h]; exact HP.out, HB2.out⟩
          case measure => simp [intOf]; omega
        · have HP := Lib.hid (show R = false from by rw [HR2.out, anyB_true hlt hp]; rfl)
          rw [hpj, hp] at HC
          clear hp hpj
          go_wp2_with fail
          refine (HC.out _ HB.out).mono ?_
          rintro en w2 ⟨rfl, hb2⟩
          have HB2 := Lib.hid (HB.out.trans (hb2.mono hsz))
          clear hb2
          go_wp2_with fail
          go_ret
          exact ⟨by rw [HP.out]; rfl, HB2.out⟩
      · obtain rfl : j = k := by omega
        have HP := Lib.hid (show R = true from by rw [HR2.out, anyB_false hno]; rfl)
        have HB := Lib.hid hb
        clear hno hb
        go_wp2_with fail
        go_ret
        exact ⟨by rw [HP.out]; rfl, HB.out⟩
  · rw [show decide (k = k') = false from decide_eq_false hk]
    have hne : ((k : Int) == (k' : Int)) = false := by simp; omega
    have hn2 : ((k : Int) != (k' : Int)) = true := by simp; omega
    clear h h' hf
    go_enter Try.func90, Try.ntmps90
    go_wp2_with fail
    go_ret
    exact ⟨rfl, Below.refl _ _⟩
set_option maxHeartbeats 3200000 in
theorem equal_none_Const (w : World) (f : Value) : Calls Try.prog 38 #[.slice none 0 0, .slice none 0 0, f] w fun en w' => en = .returned (.bool true) ∧ w = w' := by
  go_enter Try.func38, Try.ntmps38
  go_wp2_with fail
  go_loop [17] (fun z => z = .int .i64 0) (fun z => 0)
  case atStart => rfl
  case round =>
    obtain rfl := hrel
    go_wp2_with fail
    go_ret
    exact ⟨rfl, rfl⟩
set_option maxHeartbeats 3200000 in
theorem equal_none_Var (w : World) (f : Value) : Calls Try.prog 40 #[.slice none 0 0, .slice none 0 0, f] w fun en w' => en = .returned (.bool true) ∧ w = w' := by
  go_enter Try.func40, Try.ntmps40
  go_wp2_with fail
  go_loop [17] (fun z => z = .int .i64 0) (fun z => 0)
  case atStart => rfl
  case round =>
    obtain rfl := hrel
    go_wp2_with fail
    go_ret
    exact ⟨rfl, rfl⟩
set_option maxHeartbeats 3200000 in
theorem equal_none_Rec (w : World) (f : Value) : Calls Try.prog 42 #[.slice none 0 0, .slice none 0 0, f] w fun en w' => en = .returned (.bool true) ∧ w = w' := by
  go_enter Try.func42, Try.ntmps42
  go_wp2_with fail
  go_loop [17] (fun z => z = .int .i64 0) (fun z => 0)
  case atStart => rfl
  case round =>
    obtain rfl := hrel
    go_wp2_with fail
    go_ret
    exact ⟨rfl, rfl⟩
set_option maxHeartbeats 3200000 in
theorem equal_none_Proc (w : World) (f : Value) : Calls Try.prog 44 #[.slice none 0 0, .slice none 0 0, f] w fun en w' => en = .returned (.bool true) ∧ w = w' := by
  go_enter Try.func44, Try.ntmps44
  go_wp2_with fail
  go_loop [17] (fun z => z = .int .i64 0) (fun z => 0)
  case atStart => rfl
  case round =>
    obtain rfl := hrel
    go_wp2_with fail
    go_ret
    exact ⟨rfl, rfl⟩
set_option maxHeartbeats 3200000 in
theorem equals_none_Str (w : World) (a a' : Option Addr) (c c' : Nat) : Calls Try.prog 37 #[.slice a 0 c, .slice a' 0 c'] w fun en w' => en = .returned (.bool true) ∧ w = w' := by
  go_enter Try.func37, Try.ntmps37
  go_wp2_with fail
  go_loop [13] (fun z => z = .int .i64 0) (fun z => 0)
  case atStart => rfl
  case round =>
    obtain rfl := hrel
    go_wp2_with fail
    go_ret
    exact ⟨rfl, rfl⟩
set_option maxHeartbeats 3200000 in
theorem equals_none_I32 (w : World) (a a' : Option Addr) (c c' : Nat) : Calls Try.prog 91 #[.slice a 0 c, .slice a' 0 c'] w fun en w' => en = .returned (.bool true) ∧ w = w' := by
  go_enter Try.func91, Try.ntmps91
  go_wp2_with fail
  go_loop [13] (fun z => z = .int .i64 0) (fun z => 0)
  case atStart => rfl
  case round =>
    obtain rfl := hrel
    go_wp2_with fail
    go_ret
    exact ⟨rfl, rfl⟩
end Go.Proofs.Ytipcnkgojonmjaa
