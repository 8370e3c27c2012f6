/- Trees: is there one in a list that a function says yes of? (Printed by wip/scripts/gen_tr2.py.) -/
import Derived.Test.YtipcnkgojonmjaaTr1
namespace Go.Proofs.Ytipcnkgojonmjaa
open Go.RowKit Go.Waf
set_option maxRecDepth 100000
set_option linter.unusedVariables false
set_option linter.unusedSimpArgs false

/-- A variable: its name, its mark, its type. -/
structure Vr where
  name : ByteArray
  ex : Bool
  t : Ty
def vrV (e : Vr) (u : Value) : Value := .agg #[.string e.name, .bool e.ex, .int .i64 e.t.form, .int .i64 e.t.num, .string e.t.name, u]
def VrsAt (w : World) (a : Option Addr) (k : Nat) (x : Nat → Vr) : Prop := 0 < k → ∃ b o, a = some ⟨b, o, none⟩ ∧ ∀ j, j < k → ∃ u, TyOk w (x j).t u ∧ w.cell? ⟨b, o + j * 6, none⟩ = some (.string (x j).name) ∧ w.cell? ⟨b, o + j * 6 + 1, none⟩ = some (.bool (x j).ex) ∧
      w.cell? ⟨b, o + j * 6 + 2, none⟩ = some (.int .i64 (x j).t.form) ∧ w.cell? ⟨b, o + j * 6 + 3, none⟩ = some (.int .i64 (x j).t.num) ∧ w.cell? ⟨b, o + j * 6 + 4, none⟩ = some (.string (x j).t.name) ∧ w.cell? ⟨b, o + j * 6 + 5, none⟩ = some u
theorem VrsAt.below {w w' : World} {B k : Nat} {a : Option Addr} {x : Nat → Vr} (h : VrsAt w a k x) (hb : Below B w w') (hB : w.heap.size ≤ B) : VrsAt w' a k x := fun hk => by
  obtain ⟨b, o, rfl, hc⟩ := h hk
  refine ⟨b, o, rfl, fun j hj => ?_⟩
  obtain ⟨u, hu, c0, c1, c2, c3, c4, c5⟩ := hc j hj
  exact ⟨u, TyOk.below hb hB _ _ hu, cell_below hb hB c0, cell_below hb hB c1, cell_below hb hB c2, cell_below hb hB c3, cell_below hb hB c4, cell_below hb hB c5⟩

/-- What a function says of each of a list's expressions. -/
def SaysEx (fid : Nat) (k : Nat) (x : Nat → Ex) (p : Nat → Bool) (w0 : World) : Prop := ∀ (W : World) (j : Nat) (tu xu : Value), j < k → ExOk W (x j) tu xu → Below w0.heap.size w0 W → Calls Try.prog fid #[exV (x j) tu xu] W fun en w' => en = .returned (.bool (p j)) ∧ Below W.heap.size W w'
set_option maxHeartbeats 3200000 in
theorem index_Ex (w : World) (fid : Nat) (a : Option Addr) (k cap : Nat) (x : Nat → Ex) (p : Nat → Bool) (h : ExsAt w a k x) (h1 : k ≤ cap) (h2 : cap ≤ 9223372036854775807) (hf : SaysEx fid k x p w) (eg : ∀ args w, (callFunc fid args).run Try.prog w = .ok (.enter fid args) w) :
    Calls Try.prog 95 #[.slice a k cap, .func (.func fid) #[] #[]] w fun en w' => (∃ z : Int, en = .returned (.int .i64 z) ∧ decide (0 ≤ z) = anyB p k) ∧ Below w.heap.size w w' := by
  have H := Lib.hid h
  have HF := Lib.hid hf
  clear h hf
  go_enter Try.func95, Try.ntmps95
  go_wp2_with fail
  go_loopw [8] (fun z wr => ∃ j : Nat, j ≤ k ∧ z = .int .i64 (j : Int) ∧ (∀ i, i < j → p i = false) ∧ Below w.heap.size w wr) (fun z _ => k - (intOf z).toNat)
  case atStart => exact ⟨0, by omega, rfl, fun i hi => absurd hi (by omega), Below.refl _ _⟩
  case round =>
    obtain ⟨j, hj, rfl, hno, hb⟩ := hrel
    by_cases hlt : j < k
    · obtain ⟨b, o, rfl, hc⟩ := H.out (by omega)
      obtain ⟨tu, xu, hok, hcc⟩ := hc j hlt
      obtain ⟨c0, c1, c2, c3, c4, c5, c6, c7⟩ := hcc.below hb (Nat.le_refl _)
      have HC := Lib.hid (HF.out wr j tu xu hlt (ExOk.below hb (Nat.le_refl _) _ _ _ hok) hb)
      obtain ⟨E, hE⟩ : ∃ E, E = x j := ⟨_, rfl⟩
      rw [← hE] at HC c0 c1 c2 c3 c5 c6
      unfold exV at HC
      clear hok hcc hE
      have HNO := Lib.hid hno
      have HB := Lib.hid hb
      clear hc hno hb
      cases hp : p j
      · have HP := Lib.hid hp
        rw [hp] at HC
        clear hp
        go_wp2_with fail
        refine HC.out.mono ?_
        rintro en w2 ⟨rfl, hb2⟩
        have HB2 := Lib.hid (HB.out.trans (hb2.mono HB.out.size))
        clear hb2
        go_wp2_with fail
        go_roundw
        case rel => exact ⟨j + 1, by omega, by go_num, fun i hi => by
          rcases Nat.lt_succ_iff_lt_or_eq.1 hi with h | h
          · exact HNO.out i h
          · rw [h]; exact HP.out, HB2.out⟩
        case measure => simp [intOf]; omega
      · have HP := Lib.hid (anyB_true hlt hp)
        rw [hp] at HC
        clear hp
        go_wp2_with fail
        refine HC.out.mono ?_
        rintro en w2 ⟨rfl, hb2⟩
        have HB2 := Lib.hid (HB.out.trans (hb2.mono HB.out.size))
        clear hb2
        go_wp2_with fail
        go_ret
        exact ⟨⟨_, rfl, by rw [HP.out]; simp⟩, HB2.out⟩
    · obtain rfl : j = k := by omega
      have HP := Lib.hid (anyB_false hno)
      have HB := Lib.hid hb
      clear hno hb
      go_wp2_with fail
      go_ret
      exact ⟨⟨_, rfl, by rw [HP.out]; simp⟩, HB.out⟩
set_option maxHeartbeats 3200000 in
theorem contains_Ex (w : World) (fid : Nat) (a : Option Addr) (k cap : Nat) (x : Nat → Ex) (p : Nat → Bool) (h : ExsAt w a k x) (h1 : k ≤ cap) (h2 : cap ≤ 9223372036854775807) (hf : SaysEx fid k x p w) (eg : ∀ args w, (callFunc fid args).run Try.prog w = .ok (.enter fid args) w) :
    Calls Try.prog 63 #[.slice a k cap, .func (.func fid) #[] #[]] w fun en w' => en = .returned (.bool (anyB p k)) ∧ Below w.heap.size w w' := by
  have H := Lib.hid (index_Ex w fid a k cap x p h h1 h2 hf eg)
  clear eg
  clear h hf
  go_enter Try.func63, Try.ntmps63
  go_wp2_with fail
  refine H.out.mono ?_
  rintro en w2 ⟨⟨z, rfl, hz⟩, hb⟩
  have HB := Lib.hid hb
  have HZ := Lib.hid hz
  clear hb hz
  go_wp2_with fail
  go_ret
  exact ⟨by rw [← HZ.out]; rfl, HB.out⟩
/-- What a function says of each of a list's types. -/
def SaysTy (fid : Nat) (c : Value) (k : Nat) (x : Nat → Ty) (p : Nat → Bool) (w0 : World) : Prop := ∀ (W : World) (j : Nat) (u : Value), j < k → TyOk W (x j) u → Below w0.heap.size w0 W → Calls Try.prog fid #[tyV (x j) u, c] W fun en w' => en = .returned (.bool (p j)) ∧ Below W.heap.size W w'
set_option maxHeartbeats 3200000 in
theorem index_Ty (w : World) (fid : Nat) (c : Value) (a : Option Addr) (k cap : Nat) (x : Nat → Ty) (p : Nat → Bool) (h : TysAt w a k x) (h1 : k ≤ cap) (h2 : cap ≤ 9223372036854775807) (hf : SaysTy fid c k x p w) (eg : ∀ args w, (callFunc fid args).run Try.prog w = .ok (.enter fid args) w) :
    Calls Try.prog 101 #[.slice a k cap, .func (.func fid) #[] #[c]] w fun en w' => (∃ z : Int, en = .returned (.int .i64 z) ∧ decide (0 ≤ z) = anyB p k) ∧ Below w.heap.size w w' := by
  have H := Lib.hid h
  have HF := Lib.hid hf
  clear h hf
  go_enter Try.func101, Try.ntmps101
  go_wp2_with fail
  go_loopw [8] (fun z wr => ∃ j : Nat, j ≤ k ∧ z = .int .i64 (j : Int) ∧ (∀ i, i < j → p i = false) ∧ Below w.heap.size w wr) (fun z _ => k - (intOf z).toNat)
  case atStart => exact ⟨0, by omega, rfl, fun i hi => absurd hi (by omega), Below.refl _ _⟩
  case round =>
    obtain ⟨j, hj, rfl, hno, hb⟩ := hrel
    by_cases hlt : j < k
    · obtain ⟨b, o, rfl, hc⟩ := H.out (by omega)
      obtain ⟨u, hok, p0, p1, p2, p3⟩ := hc j hlt
      have c0 := cell_below hb (Nat.le_refl _) p0
      have c1 := cell_below hb (Nat.le_refl _) p1
      have c2 := cell_below hb (Nat.le_refl _) p2
      have c3 := cell_below hb (Nat.le_refl _) p3
      have HC := Lib.hid (HF.out wr j u hlt (TyOk.below hb (Nat.le_refl _) _ _ hok) hb)
      obtain ⟨E, hE⟩ : ∃ E, E = x j := ⟨_, rfl⟩
      rw [← hE] at HC c0 c1 c2
      unfold tyV at HC
      clear hok p0 p1 p2 p3 hE
      have HNO := Lib.hid hno
      have HB := Lib.hid hb
      clear hc hno hb
      cases hp : p j
      · have HP := Lib.hid hp
        rw [hp] at HC
        clear hp
        go_wp2_with fail
        refine HC.out.mono ?_
        rintro en w2 ⟨rfl, hb2⟩
        have HB2 := Lib.hid (HB.out.trans (hb2.mono HB.out.size))
        clear hb2
        go_wp2_with fail
        go_roundw
        case rel => exact ⟨j + 1, by omega, by go_num, fun i hi => by
          rcases Nat.lt_succ_iff_lt_or_eq.1 hi with h | h
          · exact HNO.out i h
          · rw [h]; exact HP.out, HB2.out⟩
        case measure => simp [intOf]; omega
      · have HP := Lib.hid (anyB_true hlt hp)
        rw [hp] at HC
        clear hp
        go_wp2_with fail
        refine HC.out.mono ?_
        rintro en w2 ⟨rfl, hb2⟩
        have HB2 := Lib.hid (HB.out.trans (hb2.mono HB.out.size))
        clear hb2
        go_wp2_with fail
        go_ret
        exact ⟨⟨_, rfl, by rw [HP.out]; simp⟩, HB2.out⟩
    · obtain rfl : j = k := by omega
      have HP := Lib.hid (anyB_false hno)
      have HB := Lib.hid hb
      clear hno hb
      go_wp2_with fail
      go_ret
      exact ⟨⟨_, rfl, by rw [HP.out]; simp⟩, HB.out⟩
set_option maxHeartbeats 3200000 in
theorem contains_Ty (w : World) (fid : Nat) (c : Value) (a : Option Addr) (k cap : Nat) (x : Nat → Ty) (p : Nat → Bool) (h : TysAt w a k x) (h1 : k ≤ cap) (h2 : cap ≤ 9223372036854775807) (hf : SaysTy fid c k x p w) (eg : ∀ args w, (callFunc fid args).run Try.prog w = .ok (.enter fid args) w) :
    Calls Try.prog 93 #[.slice a k cap, .func (.func fid) #[] #[c]] w fun en w' => en = .returned (.bool (anyB p k)) ∧ Below w.heap.size w w' := by
  have H := Lib.hid (index_Ty w fid c a k cap x p h h1 h2 hf eg)
  clear eg
  clear h hf
  go_enter Try.func93, Try.ntmps93
  go_wp2_with fail
  refine H.out.mono ?_
  rintro en w2 ⟨⟨z, rfl, hz⟩, hb⟩
  have HB := Lib.hid hb
  have HZ := Lib.hid hz
  clear hb hz
  go_wp2_with fail
  go_ret
  exact ⟨by rw [← HZ.out]; rfl, HB.out⟩
/-- What a function says of each of a list's bodies. -/
def SaysBs (fid : Nat) (k : Nat) (bl : Nat → Nat) (x : Nat → Nat → St) (p : Nat → Bool) (w0 : World) : Prop := ∀ (W : World) (j : Nat) (ja : Option Addr) (jc : Nat), j < k → bl j ≤ jc → jc ≤ 9223372036854775807 → StsAt W ja (bl j) (x j) → Below w0.heap.size w0 W → Calls Try.prog fid #[.slice ja (bl j) jc] W fun en w' => en = .returned (.bool (p j)) ∧ Below W.heap.size W w'
set_option maxHeartbeats 3200000 in
theorem index_Bs (w : World) (fid : Nat) (a : Option Addr) (k cap : Nat) (bl : Nat → Nat) (x : Nat → Nat → St) (p : Nat → Bool) (h : BsAt w a k bl x) (h1 : k ≤ cap) (h2 : cap ≤ 9223372036854775807) (hf : SaysBs fid k bl x p w) (eg : ∀ args w, (callFunc fid args).run Try.prog w = .ok (.enter fid args) w) :
    Calls Try.prog 96 #[.slice a k cap, .func (.func fid) #[] #[]] w fun en w' => (∃ z : Int, en = .returned (.int .i64 z) ∧ decide (0 ≤ z) = anyB p k) ∧ Below w.heap.size w w' := by
  have H := Lib.hid h
  have HF := Lib.hid hf
  clear h hf
  go_enter Try.func96, Try.ntmps96
  go_wp2_with fail
  go_loopw [8] (fun z wr => ∃ j : Nat, j ≤ k ∧ z = .int .i64 (j : Int) ∧ (∀ i, i < j → p i = false) ∧ Below w.heap.size w wr) (fun z _ => k - (intOf z).toNat)
  case atStart => exact ⟨0, by omega, rfl, fun i hi => absurd hi (by omega), Below.refl _ _⟩
  case round =>
    obtain ⟨j, hj, rfl, hno, hb⟩ := hrel
    by_cases hlt : j < k
    · obtain ⟨b, o, rfl, hc⟩ := H.out (by omega)
      obtain ⟨ja, jc, p0, q1, q2, hok⟩ := hc j hlt
      have c0 := cell_below hb (Nat.le_refl _) p0
      have HC := Lib.hid (HF.out wr j ja jc hlt q1 q2 (StsAt.below hok hb (Nat.le_refl _)) hb)
      obtain ⟨L, hL⟩ : ∃ L, L = bl j := ⟨_, rfl⟩
      rw [← hL] at HC c0
      clear hok p0 q1 q2 hL
      have HNO := Lib.hid hno
      have HB := Lib.hid hb
      clear hc hno hb
      cases hp : p j
      · have HP := Lib.hid hp
        rw [hp] at HC
        clear hp
        go_wp2_with fail
        refine HC.out.mono ?_
        rintro en w2 ⟨rfl, hb2⟩
        have HB2 := Lib.hid (HB.out.trans (hb2.mono HB.out.size))
        clear hb2
        go_wp2_with fail
        go_roundw
        case rel => exact ⟨j + 1, by omega, by go_num, fun i hi => by
          rcases Nat.lt_succ_iff_lt_or_eq.1 hi with h | h
          · exact HNO.out i h
          · rw [h]; exact HP.out, HB2.out⟩
        case measure => simp [intOf]; omega
      · have HP := Lib.hid (anyB_true hlt hp)
        rw [hp] at HC
        clear hp
        go_wp2_with fail
        refine HC.out.mono ?_
        rintro en w2 ⟨rfl, hb2⟩
        have HB2 := Lib.hid (HB.out.trans (hb2.mono HB.out.size))
        clear hb2
        go_wp2_with fail
        go_ret
        exact ⟨⟨_, rfl, by rw [HP.out]; simp⟩, HB2.out⟩
    · obtain rfl : j = k := by omega
      have HP := Lib.hid (anyB_false hno)
      have HB := Lib.hid hb
      clear hno hb
      go_wp2_with fail
      go_ret
      exact ⟨⟨_, rfl, by rw [HP.out]; simp⟩, HB.out⟩
set_option maxHeartbeats 3200000 in
theorem contains_Bs (w : World) (fid : Nat) (a : Option Addr) (k cap : Nat) (bl : Nat → Nat) (x : Nat → Nat → St) (p : Nat → Bool) (h : BsAt w a k bl x) (h1 : k ≤ cap) (h2 : cap ≤ 9223372036854775807) (hf : SaysBs fid k bl x p w) (eg : ∀ args w, (callFunc fid args).run Try.prog w = .ok (.enter fid args) w) :
    Calls Try.prog 65 #[.slice a k cap, .func (.func fid) #[] #[]] w fun en w' => en = .returned (.bool (anyB p k)) ∧ Below w.heap.size w w' := by
  have H := Lib.hid (index_Bs w fid a k cap bl x p h h1 h2 hf eg)
  clear eg
  clear h hf
  go_enter Try.func65, Try.ntmps65
  go_wp2_with fail
  refine H.out.mono ?_
  rintro en w2 ⟨⟨z, rfl, hz⟩, hb⟩
  have HB := Lib.hid hb
  have HZ := Lib.hid hz
  clear hb hz
  go_wp2_with fail
  go_ret
  exact ⟨by rw [← HZ.out]; rfl, HB.out⟩
/-- What a function says of each of a list's variables. -/
def SaysVr (fid : Nat) (k : Nat) (x : Nat → Vr) (p : Nat → Bool) (w0 : World) : Prop := ∀ (W : World) (j : Nat) (u : Value), j < k → TyOk W (x j).t u → Below w0.heap.size w0 W → Calls Try.prog fid #[vrV (x j) u] W fun en w' => en = .returned (.bool (p j)) ∧ Below W.heap.size W w'
set_option maxHeartbeats 3200000 in
theorem index_Vr (w : World) (fid : Nat) (a : Option Addr) (k cap : Nat) (x : Nat → Vr) (p : Nat → Bool) (h : VrsAt w a k x) (h1 : k ≤ cap) (h2 : cap ≤ 9223372036854775807) (hf : SaysVr fid k x p w) (eg : ∀ args w, (callFunc fid args).run Try.prog w = .ok (.enter fid args) w) :
    Calls Try.prog 92 #[.slice a k cap, .func (.func fid) #[] #[]] w fun en w' => (∃ z : Int, en = .returned (.int .i64 z) ∧ decide (0 ≤ z) = anyB p k) ∧ Below w.heap.size w w' := by
  have H := Lib.hid h
  have HF := Lib.hid hf
  clear h hf
  go_enter Try.func92, Try.ntmps92
  go_wp2_with fail
  go_loopw [8] (fun z wr => ∃ j : Nat, j ≤ k ∧ z = .int .i64 (j : Int) ∧ (∀ i, i < j → p i = false) ∧ Below w.heap.size w wr) (fun z _ => k - (intOf z).toNat)
  case atStart => exact ⟨0, by omega, rfl, fun i hi => absurd hi (by omega), Below.refl _ _⟩
  case round =>
    obtain ⟨j, hj, rfl, hno, hb⟩ := hrel
    by_cases hlt : j < k
    · obtain ⟨b, o, rfl, hc⟩ := H.out (by omega)
      obtain ⟨u, hok, p0, p1, p2, p3, p4, p5⟩ := hc j hlt
      have c0 := cell_below hb (Nat.le_refl _) p0
      have c1 := cell_below hb (Nat.le_refl _) p1
      have c2 := cell_below hb (Nat.le_refl _) p2
      have c3 := cell_below hb (Nat.le_refl _) p3
      have c4 := cell_below hb (Nat.le_refl _) p4
      have c5 := cell_below hb (Nat.le_refl _) p5
      have HC := Lib.hid (HF.out wr j u hlt (TyOk.below hb (Nat.le_refl _) _ _ hok) hb)
      obtain ⟨E, hE⟩ : ∃ E, E = x j := ⟨_, rfl⟩
      rw [← hE] at HC c0 c1 c2 c3 c4
      unfold vrV at HC
      clear hok p0 p1 p2 p3 p4 p5 hE
      have HNO := Lib.hid hno
      have HB := Lib.hid hb
      clear hc hno hb
      cases hp : p j
      · have HP := Lib.hid hp
        rw [hp] at HC
        clear hp
        go_wp2_with fail
        refine HC.out.mono ?_
        rintro en w2 ⟨rfl, hb2⟩
        have HB2 := Lib.hid (HB.out.trans (hb2.mono HB.out.size))
        clear hb2
        go_wp2_with fail
        go_roundw
        case rel => exact ⟨j + 1, by omega, by go_num, fun i hi => by
          rcases Nat.lt_succ_iff_lt_or_eq.1 hi with h | h
          · exact HNO.out i h
          · rw [h]; exact HP.out, HB2.out⟩
        case measure => simp [intOf]; omega
      · have HP := Lib.hid (anyB_true hlt hp)
        rw [hp] at HC
        clear hp
        go_wp2_with fail
        refine HC.out.mono ?_
        rintro en w2 ⟨rfl, hb2⟩
        have HB2 := Lib.hid (HB.out.trans (hb2.mono HB.out.size))
        clear hb2
        go_wp2_with fail
        go_ret
        exact ⟨⟨_, rfl, by rw [HP.out]; simp⟩, HB2.out⟩
    · obtain rfl : j = k := by omega
      have HP := Lib.hid (anyB_false hno)
      have HB := Lib.hid hb
      clear hno hb
      go_wp2_with fail
      go_ret
      exact ⟨⟨_, rfl, by rw [HP.out]; simp⟩, HB.out⟩
set_option maxHeartbeats 3200000 in
theorem contains_Vr (w : World) (fid : Nat) (a : Option Addr) (k cap : Nat) (x : Nat → Vr) (p : Nat → Bool) (h : VrsAt w a k x) (h1 : k ≤ cap) (h2 : cap ≤ 9223372036854775807) (hf : SaysVr fid k x p w) (eg : ∀ args w, (callFunc fid args).run Try.prog w = .ok (.enter fid args) w) :
    Calls Try.prog 60 #[.slice a k cap, .func (.func fid) #[] #[]] w fun en w' => en = .returned (.bool (anyB p k)) ∧ Below w.heap.size w w' := by
  have H := Lib.hid (index_Vr w fid a k cap x p h h1 h2 hf eg)
  clear eg
  clear h hf
  go_enter Try.func60, Try.ntmps60
  go_wp2_with fail
  refine H.out.mono ?_
  rintro en w2 ⟨⟨z, rfl, hz⟩, hb⟩
  have HB := Lib.hid hb
  have HZ := Lib.hid hz
  clear hb hz
  go_wp2_with fail
  go_ret
  exact ⟨by rw [← HZ.out]; rfl, HB.out⟩
set_option maxHeartbeats 3200000 in
theorem contains_none_Str (w : World) (f : Value) : Calls Try.prog 18 #[.slice none 0 0, f] w fun en w' => en = .returned (.bool false) ∧ w = w' := by
  have H : Calls Try.prog 67 #[.slice none 0 0, f] w fun en w' => en = .returned (.int .i64 (-1)) ∧ w = w' := by
    go_enter Try.func67, Try.ntmps67
    go_wp2_with fail
    go_loop [8] (fun z => z = .int .i64 0) (fun z => 0)
    case atStart => rfl
    case round =>
      obtain rfl := hrel
      go_wp2_with fail
      go_ret
      exact ⟨rfl, rfl⟩
  have HH := Lib.hid H
  clear H
  go_enter Try.func18, Try.ntmps18
  go_wp2_with fail
  refine HH.out.mono ?_
  rintro en w2 ⟨rfl, rfl⟩
  go_wp2_with fail
  go_ret
  exact ⟨rfl, rfl⟩
set_option maxHeartbeats 3200000 in
theorem contains_none_Const (w : World) (f : Value) : Calls Try.prog 20 #[.slice none 0 0, f] w fun en w' => en = .returned (.bool false) ∧ w = w' := by
  have H : Calls Try.prog 68 #[.slice none 0 0, f] w fun en w' => en = .returned (.int .i64 (-1)) ∧ w = w' := by
    go_enter Try.func68, Try.ntmps68
    go_wp2_with fail
    go_loop [8] (fun z => z = .int .i64 0) (fun z => 0)
    case atStart => rfl
    case round =>
      obtain rfl := hrel
      go_wp2_with fail
      go_ret
      exact ⟨rfl, rfl⟩
  have HH := Lib.hid H
  clear H
  go_enter Try.func20, Try.ntmps20
  go_wp2_with fail
  refine HH.out.mono ?_
  rintro en w2 ⟨rfl, rfl⟩
  go_wp2_with fail
  go_ret
  exact ⟨rfl, rfl⟩
set_option maxHeartbeats 3200000 in
theorem contains_none_Rec (w : World) (f : Value) : Calls Try.prog 23 #[.slice none 0 0, f] w fun en w' => en = .returned (.bool false) ∧ w = w' := by
  have H : Calls Try.prog 70 #[.slice none 0 0, f] w fun en w' => en = .returned (.int .i64 (-1)) ∧ w = w' := by
    go_enter Try.func70, Try.ntmps70
    go_wp2_with fail
    go_loop [8] (fun z => z = .int .i64 0) (fun z => 0)
    case atStart => rfl
    case round =>
      obtain rfl := hrel
      go_wp2_with fail
      go_ret
      exact ⟨rfl, rfl⟩
  have HH := Lib.hid H
  clear H
  go_enter Try.func23, Try.ntmps23
  go_wp2_with fail
  refine HH.out.mono ?_
  rintro en w2 ⟨rfl, rfl⟩
  go_wp2_with fail
  go_ret
  exact ⟨rfl, rfl⟩
set_option maxHeartbeats 3200000 in
theorem contains_none_Proc (w : World) (f : Value) : Calls Try.prog 25 #[.slice none 0 0, f] w fun en w' => en = .returned (.bool false) ∧ w = w' := by
  have H : Calls Try.prog 71 #[.slice none 0 0, f] w fun en w' => en = .returned (.int .i64 (-1)) ∧ w = w' := by
    go_enter Try.func71, Try.ntmps71
    go_wp2_with fail
    go_loop [8] (fun z => z = .int .i64 0) (fun z => 0)
    case atStart => rfl
    case round =>
      obtain rfl := hrel
      go_wp2_with fail
      go_ret
      exact ⟨rfl, rfl⟩
  have HH := Lib.hid H
  clear H
  go_enter Try.func25, Try.ntmps25
  go_wp2_with fail
  refine HH.out.mono ?_
  rintro en w2 ⟨rfl, rfl⟩
  go_wp2_with fail
  go_ret
  exact ⟨rfl, rfl⟩
end Go.Proofs.Ytipcnkgojonmjaa
