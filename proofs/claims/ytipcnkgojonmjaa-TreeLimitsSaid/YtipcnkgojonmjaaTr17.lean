/- Trees: a clone of what is small. -/
import Derived.Test.YtipcnkgojonmjaaTr16
namespace Go.Proofs.Ytipcnkgojonmjaa
open Go.RowKit Go.Waf
set_option maxRecDepth 100000
set_option linter.unusedVariables false
set_option linter.unusedSimpArgs false

set_option maxHeartbeats 3200000 in
theorem cloneType_leaf (w : World) (f n : Int) (s : ByteArray) (a : Option Addr) (c : Nat) : Calls Try.prog 83 #[.agg #[.int .i64 f, .int .i64 n, .string s, .slice a 0 c]] w fun en w' => en = .returned (.agg #[.int .i64 f, .int .i64 n, .string s, .slice none 0 0]) ∧ Below w.heap.size w w' := by
  go_enter Try.func83, Try.ntmps83
  go_wp2_with fail
  go_loop [11] (fun z => z = .int .i64 0) (fun z => 0)
  case atStart => rfl
  case round =>
    obtain rfl := hrel
    go_wp2_with fail
    exact bodyPost_ret (v := .agg #[.int .i64 f, .int .i64 n, .string s, .slice none 0 0]) (by simp [results, Try.results83, go_sem]; try rfl) rfl ⟨rfl, by (repeat' first | exact Below.refl _ _ | exact Nat.le_refl _ | refine Below.alloc ?_ ?_ _ | refine Below.setCell ?_ ?_ _) <;> simp <;> omega⟩
set_option maxHeartbeats 3200000 in
theorem each_none_Ex (w : World) (g : Value) (a : Option Addr) (c : Nat) : Calls Try.prog 86 #[.slice a 0 c, g] w fun en w' => en = .returned (.slice none 0 0) ∧ w = w' := by
  go_enter Try.func86, Try.ntmps86
  go_wp2_with fail
  go_loop [5, 10] (fun v z => v = .slice none 0 0 ∧ z = .int .i64 0) (fun _ z => 0)
  case atStart => exact ⟨rfl, rfl⟩
  case round =>
    obtain ⟨rfl, rfl⟩ := hrel
    go_wp2_with fail
    go_ret
    exact ⟨rfl, rfl⟩
theorem eqNilS (w : World) : (binOp .eql 23 (.slice none 0 0) (.slice none 0 0)).run Try.prog w = .ok (.bool true) w := by kernel_rfl
set_option maxHeartbeats 3200000 in
theorem clone_none_Str (w : World) : Calls Try.prog 46 #[.slice none 0 0] w fun en w' => en = .returned (.slice none 0 0) ∧ w = w' := by
  have hq := eqNilS
  go_enter Try.func46, Try.ntmps46
  go_wp2_with fail
  go_ret
  exact ⟨rfl, rfl⟩
theorem elemExpr : Elem Try.prog 34 36 8 112 := Elem.mk' (z := .agg #[.int .i64 0, .int .i64 0, .int .i64 0, .string ByteArray.empty, .slice none 0 0, .int .i32 0, .string ByteArray.empty, .slice none 0 0]) Try.underlying34 (by kernel_rfl) rfl (by decide)
def exL (e : Ex) (tv xv : Value) : List Value := [.int .i64 e.op, .int .i64 e.t.form, .int .i64 e.t.num, .string e.t.name, tv, .int .i32 e.i, .string e.s, xv]
def rowX (x : Nat → Ex) (tv xv : Nat → Value) : Nat → List Value
  | 0 => []
  | k + 1 => rowX x tv xv k ++ exL (x k) (tv k) (xv k)
theorem rowX_length (x : Nat → Ex) (tv xv : Nat → Value) : ∀ k, (rowX x tv xv k).length = k * 8
  | 0 => rfl
  | k + 1 => by rw [rowX, List.length_append, rowX_length x tv xv k]; simp [exL]; omega
theorem rowX_congr {x : Nat → Ex} {tv xv tv' xv' : Nat → Value} : ∀ k, (∀ i, i < k → tv i = tv' i ∧ xv i = xv' i) → rowX x tv xv k = rowX x tv' xv' k
  | 0, _ => rfl
  | k + 1, h => by rw [rowX, rowX, rowX_congr k (fun i hi => h i (by omega)), (h k (by omega)).1, (h k (by omega)).2]
theorem rowX_get (x : Nat → Ex) (tv xv : Nat → Value) : ∀ k i j, i < k → j < 8 → (rowX x tv xv k)[i * 8 + j]? = (exL (x i) (tv i) (xv i))[j]?
  | 0, i, j, h, _ => absurd h (by omega)
  | k + 1, i, j, h, hj => by
    rw [rowX]
    by_cases he : i = k
    · subst he
      rw [List.getElem?_append_right (by rw [rowX_length]; omega), rowX_length]
      congr 1; omega
    · rw [List.getElem?_append_left (by rw [rowX_length]; omega)]
      exact rowX_get x tv xv k i j (by omega) hj
theorem exL_one (e : Ex) (ta xa : Option Addr) (tn tc xn xc : Nat) : ∀ u ∈ exL e (.slice ta tn tc) (.slice xa xn xc), u.oneCell' = true := by
  intro u hu
  simp only [exL, List.mem_cons, List.not_mem_nil, or_false] at hu
  rcases hu with rfl | rfl | rfl | rfl | rfl | rfl | rfl | rfl <;> rfl
/-- The same as TyOk, ExOk, and all blocks are F's. -/
def TyOkB (F : Nat → Prop) (w : World) : Ty → Value → Prop
  | .none, _ => False
  | .mk _ _ _ k of, v => ∃ a cap, v = .slice a k cap ∧ k ≤ cap ∧ cap ≤ 9223372036854775807 ∧ (0 < k → ∃ b o, a = some ⟨b, o, none⟩ ∧ F b ∧ ∀ j, j < k → ∃ u, TyOkB F w (of j) u ∧
      w.cell? ⟨b, o + j * 4, none⟩ = some (.int .i64 (of j).form) ∧ w.cell? ⟨b, o + j * 4 + 1, none⟩ = some (.int .i64 (of j).num) ∧ w.cell? ⟨b, o + j * 4 + 2, none⟩ = some (.string (of j).name) ∧ w.cell? ⟨b, o + j * 4 + 3, none⟩ = some u)
def ExOkB (F : Nat → Prop) (w : World) : Ex → Value → Value → Prop
  | .none, _, _ => False
  | .mk _ t _ _ k x, tv, xv => TyOkB F w t tv ∧ ∃ a cap, xv = .slice a k cap ∧ k ≤ cap ∧ cap ≤ 9223372036854775807 ∧ (0 < k → ∃ b o, a = some ⟨b, o, none⟩ ∧ F b ∧ ∀ j, j < k → ∃ tu xu, ExOkB F w (x j) tu xu ∧ ExCells w b (o + j * 8) (x j) tu xu)
/-- Cells of F's blocks are kept. -/
def Keeps (F : Nat → Prop) (w w' : World) : Prop := ∀ b o u, F b → w.cell? ⟨b, o, none⟩ = some u → w'.cell? ⟨b, o, none⟩ = some u
theorem Keeps.below {F : Nat → Prop} {w w' : World} (h : Below w.heap.size w w') : Keeps F w w' := fun b o u _ hc => cell_below h (Nat.le_refl _) hc
theorem Keeps.set {F : Nat → Prop} (w : World) (p : Addr) (u : Value) (hp : ¬ F p.block) : Keeps F w (w.setCell p u) := fun b o v hb hc => by
  have : b ≠ p.block := fun e => hp (e ▸ hb)
  rw [World.cell?_of_block (a := ⟨b, o, none⟩) (Below.heap_setCell w p u b this)]; exact hc
theorem Keeps.trans {F : Nat → Prop} {a b c : World} (h : Keeps F a b) (k : Keeps F b c) : Keeps F a c := fun q o u hq hc => k q o u hq (h q o u hq hc)
theorem TyOkB.imp {F F' : Nat → Prop} {w w' : World} (hF : ∀ b, F b → F' b) (hk : Keeps F w w') : ∀ (t : Ty) (v : Value), TyOkB F w t v → TyOkB F' w' t v
  | .none, _, h => h
  | .mk _ _ _ k of, v, h => by
    obtain ⟨a, cap, rfl, h1, h2, h3⟩ := h
    refine ⟨a, cap, rfl, h1, h2, fun h0 => ?_⟩
    obtain ⟨b, o, rfl, hb, hc⟩ := h3 h0
    refine ⟨b, o, rfl, hF b hb, fun j hj => ?_⟩
    obtain ⟨u, hu, c0, c1, c2, c3⟩ := hc j hj
    exact ⟨u, TyOkB.imp hF hk (of j) u hu, hk _ _ _ hb c0, hk _ _ _ hb c1, hk _ _ _ hb c2, hk _ _ _ hb c3⟩
theorem ExOkB.imp {F F' : Nat → Prop} {w w' : World} (hF : ∀ b, F b → F' b) (hk : Keeps F w w') : ∀ (e : Ex) (tv xv : Value), ExOkB F w e tv xv → ExOkB F' w' e tv xv
  | .none, _, _, h => h
  | .mk _ t _ _ k x, tv, xv, h => by
    obtain ⟨ht, a, cap, rfl, h1, h2, h3⟩ := h
    refine ⟨TyOkB.imp hF hk t tv ht, a, cap, rfl, h1, h2, fun h0 => ?_⟩
    obtain ⟨b, o, rfl, hb, hc⟩ := h3 h0
    refine ⟨b, o, rfl, hF b hb, fun j hj => ?_⟩
    obtain ⟨tu, xu, hu, ⟨c0, c1, c2, c3, c4, c5, c6, c7⟩⟩ := hc j hj
    exact ⟨tu, xu, ExOkB.imp hF hk (x j) tu xu hu, ⟨hk _ _ _ hb c0, hk _ _ _ hb c1, hk _ _ _ hb c2, hk _ _ _ hb c3, hk _ _ _ hb c4, hk _ _ _ hb c5, hk _ _ _ hb c6, hk _ _ _ hb c7⟩⟩
theorem TyOkB.ok {F : Nat → Prop} {w : World} : ∀ (t : Ty) (v : Value), TyOkB F w t v → TyOk w t v
  | .none, _, h => h
  | .mk _ _ _ k of, v, h => by
    obtain ⟨a, cap, rfl, h1, h2, h3⟩ := h
    refine ⟨a, cap, rfl, h1, h2, fun h0 => ?_⟩
    obtain ⟨b, o, rfl, hb, hc⟩ := h3 h0
    refine ⟨b, o, rfl, fun j hj => ?_⟩
    obtain ⟨u, hu, c⟩ := hc j hj
    exact ⟨u, TyOkB.ok (of j) u hu, c⟩
theorem ExOkB.ok {F : Nat → Prop} {w : World} : ∀ (e : Ex) (tv xv : Value), ExOkB F w e tv xv → ExOk w e tv xv
  | .none, _, _, h => h
  | .mk _ t _ _ k x, tv, xv, h => by
    obtain ⟨ht, a, cap, rfl, h1, h2, h3⟩ := h
    refine ⟨TyOkB.ok t tv ht, a, cap, rfl, h1, h2, fun h0 => ?_⟩
    obtain ⟨b, o, rfl, hb, hc⟩ := h3 h0
    refine ⟨b, o, rfl, fun j hj => ?_⟩
    obtain ⟨tu, xu, hu, c⟩ := hc j hj
    exact ⟨tu, xu, ExOkB.ok (x j) tu xu hu, c⟩
/-- k expressions: a slice, and all blocks are F's. -/
def ExsInB (F : Nat → Prop) (w : World) (v : Value) (k : Nat) (x : Nat → Ex) : Prop := ∃ a cap, v = .slice a k cap ∧ k ≤ cap ∧ cap ≤ 9223372036854775807 ∧ (0 < k → ∃ b o, a = some ⟨b, o, none⟩ ∧ F b ∧ ∀ j, j < k → ∃ tu xu, ExOkB F w (x j) tu xu ∧ ExCells w b (o + j * 8) (x j) tu xu)
theorem exsIn_of_owns {w : World} {base : Nat} {v : Value} {k : Nat} {x : Nat → Ex} {tv xv : Nat → Value} {F : Nat → Prop} (hF : ∀ b, base ≤ b → F b) (ho : w.ownsRow base 36 8 v k (rowX x tv xv k)) (hk : ∀ i, i < k → ExOkB F w (x i) (tv i) (xv i)) : ExsInB F w v k x := by
  obtain ⟨_, a, cap, hv, p1, p2, _, p4⟩ := rd_of_owns ho
  refine ⟨a, cap, hv, p1, by simpa [maxLen] using p2, fun h0 => ?_⟩
  obtain ⟨b, o, ha, hc⟩ := p4 h0
  have hb : base ≤ b := (ho.lt b (by rw [hv, ha]; rfl)).1
  refine ⟨b, o, ha, hF b hb, fun j hj => ⟨tv j, xv j, hk j hj, ?_⟩⟩
  have hg := fun i (u : Value) (hi : i < 8) (hu : (exL (x j) (tv j) (xv j))[i]? = some u) => hc (j * 8 + i) u ((rowX_get x tv xv k j i hj hi).trans hu)
  exact ⟨hg 0 _ (by decide) rfl, hg 1 _ (by decide) rfl, hg 2 _ (by decide) rfl, hg 3 _ (by decide) rfl, hg 4 _ (by decide) rfl, hg 5 _ (by decide) rfl, hg 6 _ (by decide) rfl, hg 7 _ (by decide) rfl⟩
/-- A leaf: no parts at all. -/
def Leaf (e : Ex) : Prop := e.k = 0 ∧ e.t.k = 0
theorem ExOkB.any {F F' : Nat → Prop} {w w' : World} {e : Ex} {tv xv : Value} (h : ExOkB F w e tv xv) (hl : Leaf e) : ExOkB F' w' e tv xv := by
  cases e with
  | none => exact h.elim
  | mk op t i s k x =>
    obtain ⟨ht, a, c, rfl, h1, h2, _⟩ := h
    obtain ⟨hk, htk⟩ := hl
    refine ⟨?_, a, c, rfl, h1, h2, fun h0 => absurd h0 (by have : k = 0 := hk; omega)⟩
    cases t with
    | none => exact ht.elim
    | mk f n s k of =>
      obtain ⟨b, d, rfl, g1, g2, _⟩ := ht
      exact ⟨b, d, rfl, g1, g2, fun h0 => absurd h0 (by have : k = 0 := htk; omega)⟩
def New (n b : Nat) : Prop := n ≤ b
def CloneP (e : Ex) : Prop := ∀ (w : World) (tv xv : Value), ExOk w e tv xv → Calls Try.prog 82 #[exV e tv xv] w fun en w' => (∃ tv' xv', en = .returned (exV e tv' xv') ∧ ExOkB (New w.heap.size) w' e tv' xv') ∧ Below w.heap.size w w'
theorem rd_newAt {b : Nat} (w : World) (hb : b = w.heap.size) (cs : List Value) (t : TypeId) (n size : Nat) (hl : cs.length = n * size) (hm : n ≤ maxLen) : Rd (w.alloc (.cells cs.toArray t)) size (.slice (some ⟨b, 0, none⟩) n n) n cs := by
  subst hb; exact rd_new w cs t n size hl hm
set_option maxHeartbeats 6400000 in
theorem each_Ex (w : World) (a : Option Addr) (k c : Nat) (x : Nat → Ex) (h1 : k ≤ c) (h2 : c ≤ 9223372036854775807) (hk : k ≤ 1000) (hx : ExsAt w a k x) (hc : ∀ j, j < k → CloneP (x j)) (hl : k ≤ 1 ∨ ∀ j, j < k → Leaf (x j)) :
    Calls Try.prog 86 #[.slice a k c, .func (.func 82) #[] #[]] w fun en w' => (∃ v, en = .returned v ∧ ExsInB (New w.heap.size) w' v k x) ∧ Below w.heap.size w w' := by
  have HX := Lib.hid hx
  have HC := Lib.hid hc
  have HL := Lib.hid hl
  have eg := enters_of Try.func82 (by kernel_rfl) rfl
  clear hx hc hl
  go_enter Try.func86, Try.ntmps86
  go_wp2_with fail
  go_loopw [5, 10] (fun v z wr => ∃ (j : Nat) (tv xv : Nat → Value), j ≤ k ∧ z = .int .i64 (j : Int) ∧ wr.ownsRow w.heap.size 36 8 v j (rowX x tv xv j) ∧ (j = 0 → v = .slice none 0 0) ∧ (∀ i, i < j → ExOkB (New w.heap.size) wr (x i) (tv i) (xv i)) ∧ Below w.heap.size w wr) (fun _ z _ => k - (intOf z).toNat)
  case atStart => exact ⟨0, fun _ => .slice none 0 0, fun _ => .slice none 0 0, by omega, rfl, World.ownsRow_nil _ _ _ _, fun _ => rfl, fun i hi => absurd hi (by omega), Below.refl _ _⟩
  case round =>
    obtain ⟨j, tv, xv, hj, rfl, ho, h0, hok, hb⟩ := hrel
    obtain ⟨wo, rfl⟩ : ∃ wo : World, wo = wr := ⟨_, rfl⟩
    obtain ⟨va, vc, rfl, v1, v2, v3⟩ := owns_shape ho
    by_cases hlt : j < k
    · obtain ⟨b, o, rfl, hcc⟩ := HX.out (by omega)
      obtain ⟨tu, xu, hokj, hcell⟩ := hcc j hlt
      obtain ⟨d0, d1, d2, d3, d4, d5, d6, d7⟩ := hcell.below hb (Nat.le_refl _)
      have HCJ := Lib.hid (fun W (hbw : Below w.heap.size w W) => HC.out j hlt W tu xu (ExOk.below hbw (Nat.le_refl _) _ _ _ hokj))
      obtain ⟨ua, uc, rfl, _, _⟩ := hokj.ty.shape
      obtain ⟨ya, yc, rfl, _, _, _⟩ := hokj.shape
      obtain ⟨E, hE⟩ : ∃ E, E = x j := ⟨_, rfl⟩
      rw [← hE] at HCJ d0 d1 d2 d3 d4 d5 d6 d7
      unfold exV at HCJ
      have HO := Lib.hid ho
      have H0 := Lib.hid h0
      have HOK := Lib.hid hok
      have HB := Lib.hid hb
      have hsz := hb.size
      have HE := Lib.hid hE
      clear hcc hokj hcell ho h0 hok hb hE
      go_wp2_with fail
      refine (HCJ.out _ (HB.out.alloc hsz _)).mono ?_
      rintro en w2 ⟨⟨tv', xv', rfl, hok'⟩, hb2⟩
      obtain ⟨ta', tc', rfl, _, _⟩ := (ExOkB.ok _ _ _ hok').ty.shape
      obtain ⟨xa', xc', rfl, _, _, _⟩ := (ExOkB.ok _ _ _ hok').shape
      replace hok' := ExOkB.imp (F' := New w.heap.size) (fun b hb => Nat.le_trans (by simp; omega) hb) (Keeps.below (Below.refl _ w2)) _ _ _ hok'
      have hb12 : Below wo.heap.size wo w2 := ((Below.refl _ wo).alloc (Nat.le_refl _) _).trans (hb2.mono (by simp))
      have HB12 := Lib.hid hb12
      have HO2 := Lib.hid ((Fr.of_below hb12).owns HO.out (fun q hq hf => by have := (HO.out.lt q hq).2; omega))
      have HB2 := Lib.hid (HB.out.trans (hb12.mono hsz))
      have hz2 := HB2.out.size
      have HOK2 := Lib.hid hok'
      clear hb2 hb12 hok'
      go_wp2_with (at_builtin; refine app_own _ elemExpr rfl _ _ rfl w.heap.size _ j (rowX x tv xv j) rfl (HO2.out.alloc _) _ 1 (exL E (.slice ta' E.t.k tc') (.slice xa' E.k xc')) rfl (rd_newAt _ (by simp) _ _ _ _ (by rfl) (by decide)) (exL_one _ _ _ _ _ _ _) (by simp only [maxLen]; omega) (by omega) (by simp; omega) ?_; intro v3 w3 ho3 hg3)
      have hb3 : Below w.heap.size w w3 := below_of_grown (HB2.out.alloc hz2 _) (by simp; omega) (HO2.out.alloc _) (Nat.le_refl _) rfl hg3
      go_roundw
      case rel =>
        refine ⟨j + 1, fun i => if i = j then .slice ta' E.t.k tc' else tv i, fun i => if i = j then .slice xa' E.k xc' else xv i, by omega, by go_num, ?_, fun h => absurd h (by omega), fun i hi => ?_, hb3⟩
        · have e : rowX x (fun i => if i = j then .slice ta' E.t.k tc' else tv i) (fun i => if i = j then .slice xa' E.k xc' else xv i) (j + 1) = rowX x tv xv j ++ exL E (.slice ta' E.t.k tc') (.slice xa' E.k xc') := by
            rw [rowX, if_pos rfl, if_pos rfl, ← HE.out, rowX_congr (tv' := tv) (xv' := xv) j fun i hi => ⟨if_neg (by omega), if_neg (by omega)⟩]
          rw [e]; exact ho3
        · show ExOkB (New w.heap.size) w3 (x i) (if i = j then Value.slice ta' E.t.k tc' else tv i) (if i = j then Value.slice xa' E.k xc' else xv i)
          rcases HL.out with hk1 | hleaf
          · obtain rfl : j = 0 := by omega
            obtain rfl : i = 0 := by omega
            rw [if_pos rfl, if_pos rfl, ← HE.out]
            have hv := H0.out rfl
            have hnone : va = none := by cases hv; rfl
            subst hnone
            exact ExOkB.imp (fun b hb => hb) (Keeps.below (below_of_grown_none ((Below.refl _ w2).alloc (Nat.le_refl _) _) (by simp) hg3)) _ _ _ HOK2.out
          · by_cases he : i = j
            · subst he
              rw [if_pos rfl, if_pos rfl]
              have h := HOK2.out
              rw [HE.out] at h ⊢
              exact ExOkB.any h (hleaf i hlt)
            · rw [if_neg he, if_neg he]
              exact ExOkB.any (HOK.out i (by omega)) (hleaf i (by omega))
      case measure => simp [intOf]; omega
    · obtain rfl : j = k := by omega
      have HB := Lib.hid hb
      have HEX := Lib.hid (exsIn_of_owns (F := New w.heap.size) (fun b hb => hb) ho hok)
      clear ho hok hb h0
      go_wp2_with fail
      go_ret
      exact ⟨⟨_, rfl, HEX.out⟩, HB.out⟩
end Go.Proofs.Ytipcnkgojonmjaa
