/- The walks and the plain lemmas of the statement, joined: part 2. No condition. -/
import Derived.Deep.SlicePairs
import Derived.DataReads
import Derived.Test.YtgkdphnhfjjepaaChecked
import Derived.Deep.DeepCutAuto
import Derived.ChangeAlike
import Derived.Maps.OwnSet
import Derived.Laws.OwnMore
import Derived.StillTailTactics
import Derived.Deep.RegionHeld3
import Derived.Outline
import Derived.Deep.CutBlock
import Derived.Test.YtgkdphnhfjjepaaJStk420
import Derived.Test.YtgkdphnhfjjepaaJStk421

/- A slice of structs of two integers that came in. -/
namespace Go.Waf
open Go.RowKit Go.Deep Go.ChangeShapes Go.WideShapes

structure PairsAt (w : World) (k0 k1 : IntKind) (a : Option Addr) (len cap : Nat) (V N : Nat → Int) : Prop where
  le : len ≤ cap
  cap63 : cap ≤ 9223372036854775807
  nil : a = none → cap = 0
  cells : 0 < len → ∃ b off, a = some ⟨b, off, none⟩ ∧ b < w.heap.size ∧ ∀ i, i < len → w.cell? ⟨b, off + i * 2, none⟩ = some (.int k0 (V i)) ∧ w.cell? ⟨b, off + i * 2 + 1, none⟩ = some (.int k1 (N i))
  wf : ∀ i, i < len → (Lit.int k0 (V i)).wf = true ∧ (Lit.int k1 (N i)).wf = true

theorem PairsAt.below {w w' : World} {k0 k1 : IntKind} {a : Option Addr} {len cap B : Nat} {V N : Nat → Int} (h : PairsAt w k0 k1 a len cap V N) (hb : Below B w w') (hB : w.heap.size ≤ B) : PairsAt w' k0 k1 a len cap V N := by
  refine ⟨h.le, h.cap63, h.nil, fun hn => ?_, h.wf⟩
  obtain ⟨b, off, ha, hlt, hc⟩ := h.cells hn
  refine ⟨b, off, ha, Nat.lt_of_lt_of_le hlt hb.size, fun i hi => ?_⟩
  have hbl := hb.block b (by omega)
  rw [World.cell?_of_block (a := ⟨b, off + i * 2, none⟩) hbl, World.cell?_of_block (a := ⟨b, off + i * 2 + 1, none⟩) hbl]
  exact hc i hi

section
variable {H : Type} {enc : TypeId × Value → H} {P : Program} {w : World} {base : Nat} {spare : Nat → Bool} {held : Bool}
theorem pairs_open {t e : TypeId} {f0 f1 : Field} {k0 k1 : IntKind} {fuel : Nat} {a : Option Addr} {len cap : Nat} {x : DataW H × List MemPlace} (ht : P.underlying t = some (.slice e)) (he : P.underlying e = some (.struct #[f0, f1]))
    (ce : P.cellsOf e = 2) (o0 : f0.offset = 0) (o1 : f1.offset = 1) (c0 : P.cellsOf f0.type = 1) (c1 : P.cellsOf f1.type = 1) (u0 : P.underlying f0.type = some (.int k0)) (u1 : P.underlying f1.type = some (.int k1))
    (h : DataW.trod enc P w base (fun _ => true) held fuel t [.slice a len cap] = some x) : ∃ V N, PairsAt w k0 k1 a len cap V N := by
  rcases open_slice_pairs ht he ce o0 o1 c0 c1 h with ⟨hcs, _⟩ | ⟨ad, len', cap', m, n, V0, V1, D0, D1, P0, P1, hcs, hb, hl, hm, hmm, _, hi⟩
  · simp at hcs
    obtain ⟨rfl, rfl, rfl⟩ := hcs
    exact ⟨fun _ => 0, fun _ => 0, by omega, by omega, fun _ => rfl, fun h => absurd h (by omega), fun i hi => absurd hi (by omega)⟩
  · simp at hcs
    obtain ⟨rfl, rfl, rfl⟩ := hcs
    simp only [if_true] at hmm
    subst hmm
    have key : ∀ i, i < len → w.cell? (ad.add (i * 2)) = some (.int k0 (intOf (V0 i))) ∧ w.cell? (ad.add (i * 2 + 1)) = some (.int k1 (intOf (V1 i))) ∧ (Lit.int k0 (intOf (V0 i))).wf = true ∧ (Lit.int k1 (intOf (V1 i))).wf = true := by
      intro i hlt
      obtain ⟨h0, h1, h2, h3⟩ := hi i (by omega)
      obtain ⟨n0, e0, _, w0⟩ := DataW.trod_int u0 h2
      obtain ⟨n1, e1, _, w1⟩ := DataW.trod_int u1 h3
      simp only [List.cons.injEq, and_true] at e0 e1
      rw [h0, h1, e0, e1]
      exact ⟨rfl, rfl, w0, w1⟩
    refine ⟨fun i => intOf (V0 i), fun i => intOf (V1 i), hl, by simpa [maxLen] using hm, by simp, fun hn => ?_, fun i hi => (key i hi).2.2⟩
    have hs := World.cell?_spot (key 0 hn).1
    obtain ⟨b, off, sp⟩ := ad
    have hsp : sp = none := by simpa [Addr.add] using hs
    subst hsp
    have hlt := World.block_lt_of_cell? w _ (key 0 hn).1
    refine ⟨b, off, rfl, by simpa [Addr.add] using hlt, fun i hi => ?_⟩
    have := key i hi
    rw [Addr.add_lit, Addr.add_lit] at this
    exact ⟨this.1, this.2.1⟩
end
end Go.Waf

/- Contracts of package verify and of its reference: instructions that may be. -/
namespace Go.Proofs.Ytgkdphnhfjjepaa
open Go.RowKit Go.Waf
set_option maxRecDepth 100000
set_option linter.unusedVariables false

def hasOp (op : Int) : Bool := op == 1 || op == 5 || op == 8 || op == 25 || op == 26 || op == 27 || op == 28 || op == 30
def rightC (op k : Int) : Bool := decide (0 ≤ op) && decide (op < 34) && (hasOp op || k == 0)
def leadsC (op k n : Int) : Bool := (op == 25 || op == 26 || op == 27) && (decide (k < 0) || decide (n ≤ k))
def endsC (op : Int) : Bool := op == 0 || op == 25 || op == 29 || op == 30
theorem cell_below {w w' : World} {B : Nat} {p : Addr} {u : Value} (hb : Below B w w') (hB : w.heap.size ≤ B) (hc : w.cell? p = some u) : w'.cell? p = some u := by
  rw [hb.cell (p := p) (Nat.lt_of_lt_of_le (World.block_lt_of_cell? w _ hc) hB)]; exact hc
theorem retV_bool {a b : Bool} (h : a = b) : Ending.returned (.bool a) = .returned (.bool b) := by rw [h]

set_option maxHeartbeats 800000 in
theorem has_any (op : Int) (w : World) : Calls Try.prog 62 #[.int .i64 op] w fun e w' => e = .returned (.bool (hasOp op)) ∧ w = w' := by
  by_cases h : op = 1 ∨ op = 5 ∨ op = 8 ∨ op = 25 ∨ op = 26 ∨ op = 27 ∨ op = 28 ∨ op = 30
  · rcases h with rfl | rfl | rfl | rfl | rfl | rfl | rfl | rfl
    all_goals
      go_enter Try.func62, Try.ntmps62
      go_wp2_with fail
      go_ret
      exact ⟨rfl, rfl⟩
  · have e : ∀ n : Int, (n = 1 ∨ n = 5 ∨ n = 8 ∨ n = 25 ∨ n = 26 ∨ n = 27 ∨ n = 28 ∨ n = 30) → (op == n) = false := fun n hn => by
      refine beq_eq_false_iff_ne.2 fun e => h (by rw [e]; exact hn)
    have e1 := e 1 (by omega); have e2 := e 5 (by omega); have e3 := e 8 (by omega); have e4 := e 25 (by omega)
    have e5 := e 26 (by omega); have e6 := e 27 (by omega); have e7 := e 28 (by omega); have e8 := e 30 (by omega)
    have hf : hasOp op = false := by simp [hasOp, e1, e2, e3, e4, e5, e6, e7, e8]
    rw [hf]
    clear e h hf
    go_enter Try.func62, Try.ntmps62
    go_wp2_with fail
    go_ret
    exact ⟨rfl, rfl⟩
set_option maxHeartbeats 800000 in
theorem rhas_any (op : Int) (w : World) : Calls Try.prog 39 #[.int .i64 op] w fun e w' => e = .returned (.bool (hasOp op)) ∧ w = w' := by
  by_cases h : op = 1 ∨ op = 5 ∨ op = 8 ∨ op = 25 ∨ op = 26 ∨ op = 27 ∨ op = 28 ∨ op = 30
  · rcases h with rfl | rfl | rfl | rfl | rfl | rfl | rfl | rfl
    all_goals
      go_enter Try.func39, Try.ntmps39
      go_wp2_with fail
      go_ret
      exact ⟨rfl, rfl⟩
  · have e : ∀ n : Int, (n = 1 ∨ n = 5 ∨ n = 8 ∨ n = 25 ∨ n = 26 ∨ n = 27 ∨ n = 28 ∨ n = 30) → (op == n) = false := fun n hn => by
      refine beq_eq_false_iff_ne.2 fun e => h (by rw [e]; exact hn)
    have e1 := e 1 (by omega); have e2 := e 5 (by omega); have e3 := e 8 (by omega); have e4 := e 25 (by omega)
    have e5 := e 26 (by omega); have e6 := e 27 (by omega); have e7 := e 28 (by omega); have e8 := e 30 (by omega)
    have hf : hasOp op = false := by simp [hasOp, e1, e2, e3, e4, e5, e6, e7, e8]
    rw [hf]
    clear e h hf
    go_enter Try.func39, Try.ntmps39
    go_wp2_with fail
    go_ret
    exact ⟨rfl, rfl⟩
theorem ends_any (op : Int) (w : World) : Calls Try.prog 60 #[.int .i64 op] w fun e w' => e = .returned (.bool (endsC op)) ∧ w = w' := by
  obtain ⟨a, ha⟩ : ∃ a, (op == 0) = a := ⟨_, rfl⟩
  obtain ⟨b, hb⟩ : ∃ b, (op == 25) = b := ⟨_, rfl⟩
  obtain ⟨c, hc⟩ : ∃ c, (op == 29) = c := ⟨_, rfl⟩
  have he : endsC op = (a || b || c || op == 30) := by rw [← ha, ← hb, ← hc]; rfl
  rw [he]
  clear he
  cases a <;> cases b <;> cases c
  all_goals
    go_enter Try.func60, Try.ntmps60
    go_wp2_with fail
    go_ret
    exact ⟨by simp, rfl⟩
theorem rin_any (n a b : Int) (w : World) : Calls Try.prog 54 #[.int .i64 n, .int .i64 a, .int .i64 b] w fun e w' => e = .returned (.bool (decide (a ≤ n) && decide (n ≤ b))) ∧ w = w' := by
  by_cases h : a ≤ n
  · by_cases h2 : n ≤ b
    all_goals
      go_enter Try.func54, Try.ntmps54
      go_wp2_with fail
      go_ret
      exact ⟨retV_bool (by simp [h, h2]), rfl⟩
  · have h2 : n < a := by omega
    go_enter Try.func54, Try.ntmps54
    go_wp2_with fail
    go_ret
    exact ⟨retV_bool (by simp; omega), rfl⟩
set_option maxHeartbeats 800000 in
theorem right_any (op k : Int) (w : World) : Calls Try.prog 50 #[.agg #[.int .i64 op, .int .i32 k]] w fun e w' => e = .returned (.bool (rightC op k)) ∧ Below w.heap.size w w' := by
  by_cases h : 0 ≤ op ∧ op < 34
  · obtain ⟨h0, h1⟩ := h
    have hr : rightC op k = (hasOp op || k == 0) := by simp [rightC, h0, h1]
    rw [hr]
    obtain ⟨b, hb⟩ : ∃ b, hasOp op = b := ⟨_, rfl⟩
    have HA := fun W => has_any op W
    rw [hb] at HA ⊢
    have HH := Lib.hid HA
    clear HA hb hr
    cases b
    all_goals
      go_enter Try.func50, Try.ntmps50
      go_wp2_with fail
      refine (HH.out _).mono ?_; rintro e w1 ⟨rfl, rfl⟩
      go_wp2_with fail
      go_ret
      exact ⟨by simp, (Below.refl _ _).alloc (Nat.le_refl _) _⟩
  · have hr : rightC op k = false := by
      rw [rightC]
      by_cases h0 : 0 ≤ op
      · rw [decide_eq_false (show ¬ op < 34 by omega)]; simp
      · rw [decide_eq_false h0]; simp
    rw [hr]
    rcases (by omega : op < 0 ∨ (0 ≤ op ∧ 34 ≤ op)) with h0 | ⟨h0, h1⟩
    all_goals
      clear h hr
      go_enter Try.func50, Try.ntmps50
      go_wp2_with fail
      go_ret
      exact ⟨rfl, (Below.refl _ _).alloc (Nat.le_refl _) _⟩
set_option maxHeartbeats 800000 in
theorem good_any (op k : Int) (w : World) : Calls Try.prog 42 #[.agg #[.int .i64 op, .int .i32 k]] w fun e w' => e = .returned (.bool (rightC op k)) ∧ Below w.heap.size w w' := by
  have HI := Lib.hid (fun W => rin_any op 0 33 W)
  by_cases h : 0 ≤ op ∧ op < 34
  · obtain ⟨h0, h1⟩ := h
    have hr : rightC op k = (hasOp op || k == 0) := by simp [rightC, h0, h1]
    rw [hr]
    have hi : (decide ((0 : Int) ≤ op) && decide (op ≤ 33)) = true := by simp; omega
    obtain ⟨b, hb⟩ : ∃ b, hasOp op = b := ⟨_, rfl⟩
    have HA := fun W => rhas_any op W
    rw [hb] at HA ⊢
    have HH := Lib.hid HA
    have hin := HI.out
    rw [hi] at hin
    have HIN := Lib.hid hin
    clear HA hb hr hi hin HI
    cases b
    all_goals
      go_enter Try.func42, Try.ntmps42
      go_wp2_with fail
      refine (HIN.out _).mono ?_; rintro e w1 ⟨rfl, rfl⟩
      go_wp2_with fail
      refine (HH.out _).mono ?_; rintro e w1 ⟨rfl, rfl⟩
      go_wp2_with fail
      go_ret
      exact ⟨by simp, (Below.refl _ _).alloc (Nat.le_refl _) _⟩
  · have hr : rightC op k = false := by
      rw [rightC]
      by_cases h0 : 0 ≤ op
      · rw [decide_eq_false (show ¬ op < 34 by omega)]; simp
      · rw [decide_eq_false h0]; simp
    have hi : (decide ((0 : Int) ≤ op) && decide (op ≤ 33)) = false := by
      by_cases h0 : 0 ≤ op
      · rw [decide_eq_false (show ¬ op ≤ 33 by omega)]; simp
      · rw [decide_eq_false h0]; simp
    rw [hr]
    have hin := HI.out
    rw [hi] at hin
    have HIN := Lib.hid hin
    clear h hr hi hin HI
    go_enter Try.func42, Try.ntmps42
    go_wp2_with fail
    refine (HIN.out _).mono ?_; rintro e w1 ⟨rfl, rfl⟩
    go_wp2_with fail
    go_ret
    exact ⟨rfl, (Below.refl _ _).alloc (Nat.le_refl _) _⟩
set_option maxHeartbeats 800000 in
theorem leads_any (op k n : Int) (hk0 : -2147483648 ≤ k) (hk1 : k ≤ 2147483647) (w : World) : Calls Try.prog 69 #[.agg #[.int .i64 op, .int .i32 k], .int .i64 n] w fun e w' => e = .returned (.bool (leadsC op k n)) ∧ Below w.heap.size w w' := by
  by_cases h : op = 25 ∨ op = 26 ∨ op = 27
  · have hl : leadsC op k n = (decide (k < 0) || decide (n ≤ k)) := by
      rcases h with rfl | rfl | rfl <;> simp [leadsC]
    rw [hl]
    clear hl
    by_cases hk : k < 0
    · rcases h with rfl | rfl | rfl
      all_goals
        go_enter Try.func69, Try.ntmps69
        go_wp2_with fail
        go_ret
        exact ⟨retV_bool (by simp; omega), (Below.refl _ _).alloc (Nat.le_refl _) _⟩
    · rcases h with rfl | rfl | rfl
      all_goals
        go_enter Try.func69, Try.ntmps69
        go_wp2_with fail
        go_ret
        exact ⟨retV_bool (by simp; omega), (Below.refl _ _).alloc (Nat.le_refl _) _⟩
  · have e1 : (op == 25) = false := by simp; omega
    have e2 : (op == 26) = false := by simp; omega
    have e3 : (op == 27) = false := by simp; omega
    have hl : leadsC op k n = false := by simp [leadsC, e1, e2, e3]
    rw [hl]
    clear hl h
    go_enter Try.func69, Try.ntmps69
    go_wp2_with fail
    go_ret
    exact ⟨rfl, (Below.refl _ _).alloc (Nat.le_refl _) _⟩
def kWrong (op k : Int) : Bool := if op == 28 || op == 8 then decide (k < 0) || decide (1048576 < k) else if op == 30 then decide (k < 1) || decide (15 < k) else false
def wrongC (op k n : Int) : Bool := !rightC op k || leadsC op k n || kWrong op k
set_option maxHeartbeats 1600000 in
theorem wrong_any (op k n : Int) (hk0 : -2147483648 ≤ k) (hk1 : k ≤ 2147483647) (w : World) : Calls Try.prog 59 #[.agg #[.int .i64 op, .int .i32 k], .int .i64 n] w fun e w' => e = .returned (.bool (wrongC op k n)) ∧ Below w.heap.size w w' := by
  have HR := Lib.hid (fun W => right_any op k W)
  have HL := Lib.hid (fun W => leads_any op k n hk0 hk1 W)
  obtain ⟨r, hr⟩ : ∃ r, rightC op k = r := ⟨_, rfl⟩
  obtain ⟨l, hl⟩ : ∃ l, leadsC op k n = l := ⟨_, rfl⟩
  have hw : wrongC op k n = (!r || l || kWrong op k) := by rw [wrongC, hr, hl]
  rw [hw]
  have hr2 := HR.out
  have hl2 := HL.out
  rw [hr] at hr2
  rw [hl] at hl2
  have HR2 := Lib.hid hr2
  have HL2 := Lib.hid hl2
  clear HR HL hr hl hr2 hl2 hw
  cases r with
  | false =>
    go_enter Try.func59, Try.ntmps59
    go_wp2_with fail
    refine (HR2.out _).mono ?_; rintro e w1 ⟨rfl, b1⟩
    go_wp2_with fail
    go_ret
    exact ⟨by simp, ((Below.refl _ _).alloc (Nat.le_refl _) _).trans (b1.mono (by simp))⟩
  | true =>
    go_enter Try.func59, Try.ntmps59
    go_wp2_with fail
    refine (HR2.out _).mono ?_; rintro e w1 ⟨rfl, b1⟩
    have d0 : w1.cell? ⟨w.heap.size, 0, none⟩ = some (.int .i64 op) := cell_below b1 (Nat.le_refl _) (by rw [World.cell?_alloc_new]; rfl)
    have d1 : w1.cell? ⟨w.heap.size, 1, none⟩ = some (.int .i32 k) := cell_below b1 (Nat.le_refl _) (by rw [World.cell?_alloc_new]; rfl)
    have HB1 := Lib.hid (((Below.refl w.heap.size w).alloc (Nat.le_refl _) (.cells #[.int .i64 op, .int .i32 k] 25)).trans (b1.mono (by simp)))
    clear b1
    go_wp2_with fail
    refine (HL2.out _).mono ?_; rintro e w2 ⟨rfl, b2⟩
    have f0 := cell_below b2 (Nat.le_refl _) d0
    have f1 := cell_below b2 (Nat.le_refl _) d1
    have HB2 := Lib.hid (HB1.out.trans (b2.mono HB1.out.size))
    clear b2 d0 d1 HB1
    cases l with
    | true =>
      go_wp2_with fail
      go_ret
      exact ⟨by simp, HB2.out⟩
    | false =>
      by_cases h : op = 28 ∨ op = 8
      · have hk : kWrong op k = (decide (k < 0) || decide (1048576 < k)) := by rcases h with rfl | rfl <;> rfl
        have HK := Lib.hid hk
        clear hk
        by_cases hk : k < 0
        · rcases h with rfl | rfl
          all_goals
            go_wp2_with fail
            go_ret
            exact ⟨retV_bool (by rw [HK.out]; simp <;> omega), HB2.out⟩
        · rcases h with rfl | rfl
          all_goals
            go_wp2_with fail
            go_ret
            exact ⟨retV_bool (by rw [HK.out]; simp <;> omega), HB2.out⟩
      · have e1 : (op == 28) = false := by simp; omega
        have e2 : (op == 8) = false := by simp; omega
        clear h
        by_cases h : op = 30
        · subst h
          have hk : kWrong 30 k = (decide (k < 1) || decide (15 < k)) := rfl
          have HK := Lib.hid hk
          clear hk
          by_cases hk : k < 1
          all_goals
            go_wp2_with fail
            go_ret
            exact ⟨retV_bool (by rw [HK.out]; simp <;> omega), HB2.out⟩
        · have e3 : (op == 30) = false := by simp; omega
          have hk : kWrong op k = false := by simp [kWrong, e1, e2, e3]
          have HK := Lib.hid hk
          clear hk h
          go_wp2_with fail
          go_ret
          exact ⟨retV_bool (by rw [HK.out]; rfl), HB2.out⟩
end Go.Proofs.Ytgkdphnhfjjepaa

/- Contracts of verify.Check. -/
namespace Go.Proofs.Ytgkdphnhfjjepaa
open Go.RowKit Go.Waf
set_option maxRecDepth 100000
set_option linter.unusedVariables false

def badAt (V N : Nat → Int) (n i : Nat) : Bool := wrongC (V i) (N i) n || (decide (i + 1 = n) && !endsC (V i))
/-- The first instruction that may not be; n, if none. -/
def firstBad (V N : Nat → Int) (n : Nat) : Nat := (List.range n).findIdx (badAt V N n)
theorem firstBad_le (V N : Nat → Int) (n : Nat) : firstBad V N n ≤ n := by
  have := List.findIdx_le_length (xs := List.range n) (p := badAt V N n)
  simpa [firstBad] using this
theorem firstBad_at (V N : Nat → Int) (n : Nat) (h : firstBad V N n < n) : badAt V N n (firstBad V N n) = true := by
  have hl : (List.range n).findIdx (badAt V N n) < (List.range n).length := by simpa [firstBad] using h
  have := List.findIdx_getElem (xs := List.range n) (p := badAt V N n) (w := hl)
  simpa [firstBad] using this
theorem firstBad_before (V N : Nat → Int) (n i : Nat) (h : i < firstBad V N n) : badAt V N n i = false := by
  have hi : i < n := Nat.lt_of_lt_of_le h (firstBad_le V N n)
  have := List.not_of_lt_findIdx (xs := List.range n) (p := badAt V N n) h
  simpa using this

set_option maxHeartbeats 1600000 in
theorem check_any (w : World) (a : Option Addr) (n cap : Nat) (V N : Nat → Int) (hp : PairsAt w .i64 .i32 a n cap V N) :
    Calls Try.prog 45 #[.slice a n cap] w fun e w' => e = .returned (if firstBad V N n < n then .tuple #[.int .i64 (firstBad V N n : Nat), .int .i64 23] else if n = 0 then .tuple #[.int .i64 0, .int .i64 23] else .tuple #[.int .i64 0, .int .i64 0]) ∧ Below w.heap.size w w' := by
  obtain ⟨K, hK⟩ : ∃ K, K = firstBad V N n := ⟨_, rfl⟩
  have hKn : K ≤ n := by rw [hK]; exact firstBad_le V N n
  rw [← hK]
  have hle := hp.le
  have hcap := hp.cap63
  have HP := Lib.hid hp
  have HK := Lib.hid hK
  clear hp hK
  go_enter Try.func45, Try.ntmps45
  go_wp2_with fail
  go_loopw [11] (fun i wr => ∃ k : Nat, k ≤ K ∧ i = .int .i64 (k : Int) ∧ Below w.heap.size w wr) (fun i _ => n - (intOf i).toNat)
  case atStart => exact ⟨0, by omega, rfl, Below.refl _ _⟩
  case round =>
    obtain ⟨k, hk, rfl, hb⟩ := hrel
    by_cases hlt : k < n
    · have hpw := HP.out.below hb (Nat.le_refl _)
      obtain ⟨ab, ao, rfl, habl, hcs⟩ := hpw.cells (by omega)
      obtain ⟨kv, kn⟩ := hcs k hlt
      obtain ⟨hv0, hv1⟩ := rng_i64 (hpw.wf k hlt).1
      obtain ⟨hn0, hn1⟩ := rng_i32 (hpw.wf k hlt).2
      obtain ⟨v, hv⟩ : ∃ v, v = V k := ⟨_, rfl⟩
      obtain ⟨c, hc⟩ : ∃ c, c = N k := ⟨_, rfl⟩
      rw [← hv] at kv hv0 hv1
      rw [← hc] at kn hn0 hn1
      have hbad : badAt V N n k = (wrongC v c n || (decide (k + 1 = n) && !endsC v)) := by rw [badAt, ← hv, ← hc]
      obtain ⟨x, hx⟩ : ∃ x, wrongC v c n = x := ⟨_, rfl⟩
      obtain ⟨y, hy⟩ : ∃ y, endsC v = y := ⟨_, rfl⟩
      have hw := fun W => wrong_any v c (n : Int) hn0 hn1 W
      have he := fun W => ends_any v W
      rw [hx] at hw
      rw [hy] at he
      rw [hx, hy] at hbad
      have HW := Lib.hid hw
      have HE := Lib.hid he
      have HBAD := Lib.hid hbad
      have HB := Lib.hid hb
      have hK1 : badAt V N n k = true → k = K := fun h => by
        rcases Nat.lt_or_ge k K with h1 | h1
        · have := firstBad_before V N n k (by rw [← HK.out]; exact h1)
          rw [h] at this; cases this
        · omega
      have hK2 : badAt V N n k = false → k + 1 ≤ K := fun h => by
        rcases Nat.lt_or_ge k K with h1 | h1
        · omega
        · have e : K = k := by omega
          have := firstBad_at V N n (by rw [← HK.out]; omega)
          rw [← HK.out, e, h] at this; cases this
      have HK1 := Lib.hid hK1
      have HK2 := Lib.hid hK2
      clear hpw hcs hv hc hbad hb hx hy hw he hK1 hK2
      go_wp2_with fail
      refine (HW.out _).mono ?_; rintro e w2 ⟨rfl, b2⟩
      have d0 : w2.cell? ⟨wr.heap.size, 0, none⟩ = some (.int .i64 v) := cell_below b2 (Nat.le_refl _) (by rw [World.cell?_alloc_new]; rfl)
      have HB2 := Lib.hid (HB.out.trans ((((Below.refl wr.heap.size wr).alloc (Nat.le_refl _) (.cells #[.int .i64 v, .int .i32 c] 25)).trans (b2.mono (by simp))).mono HB.out.size))
      clear b2
      cases x with
      | true =>
        have hk1 := HK1.out (by rw [HBAD.out]; rfl)
        subst hk1
        go_wp2_with fail
        go_ret2
        exact ⟨by simp, HB2.out⟩
      | false =>
        by_cases hlast : k + 1 = n
        · have q : ((k : Int) == (n : Int) - 1) = true := by simp; omega
          cases y with
          | true =>
            have hk2 := HK2.out (by rw [HBAD.out, hlast]; simp)
            clear hlast
            go_wp2_with fail
            refine (HE.out _).mono ?_; rintro e w3 ⟨rfl, rfl⟩
            go_wp2_with fail
            go_roundw
            case rel => exact ⟨k + 1, by omega, by go_num, HB2.out⟩
            case measure => simp [intOf]; omega
          | false =>
            have hk1 := HK1.out (by rw [HBAD.out, hlast]; simp)
            subst hk1
            clear hlast
            go_wp2_with fail
            refine (HE.out _).mono ?_; rintro e w3 ⟨rfl, rfl⟩
            go_wp2_with fail
            go_ret2
            exact ⟨by simp, HB2.out⟩
        · have q : ((k : Int) == (n : Int) - 1) = false := by simp; omega
          have hk2 := HK2.out (by rw [HBAD.out, decide_eq_false hlast]; simp)
          clear hlast
          go_wp2_with fail
          go_roundw
          case rel => exact ⟨k + 1, by omega, by go_num, HB2.out⟩
          case measure => simp [intOf]; omega
    · obtain rfl : k = n := by omega
      obtain rfl : K = k := by omega
      have HB := Lib.hid hb
      clear hb
      by_cases h0 : K = 0
      · subst h0
        go_wp2_with fail
        go_ret2
        exact ⟨by simp, HB.out⟩
      · have q : ((K : Int) == 0) = false := by simp; omega
        go_wp2_with fail
        go_ret2
        exact ⟨by simp, HB.out⟩
end Go.Proofs.Ytgkdphnhfjjepaa

/- How many operands there are ahead of each instruction: the plain law behind both programs, with no program in sight. -/
namespace Go.Proofs.Ytgkdphnhfjjepaa
open Go.RowKit Go.Waf
set_option linter.unusedVariables false

def effT : List (Int × Int) := [(0,0),(0,1),(1,2),(1,0),(2,2),(0,1),(1,1),(2,0),(2,0),(2,1),(2,1),(2,1),(2,1),(2,1),(1,1),(2,1),(2,1),(2,1),(1,1),(2,1),(2,1),(2,1),(2,1),(2,1),(2,1),(0,0),(1,0),(0,0),(0,0),(0,0),(0,0),(0,1),(0,1),(1,0)]
def takesC (op : Int) : Int := (effT.getD op.toNat (0, 0)).1
def leavesC (op : Int) : Int := (effT.getD op.toNat (0, 0)).2
theorem effT_le : ∀ i : Nat, 0 ≤ (effT.getD i (0, 0)).1 ∧ (effT.getD i (0, 0)).1 ≤ 2 ∧ 0 ≤ (effT.getD i (0, 0)).2 ∧ (effT.getD i (0, 0)).2 ≤ 2 := by
  intro i
  by_cases h : i < 34
  · have H : ∀ j : Fin 34, 0 ≤ (effT.getD j.1 (0, 0)).1 ∧ (effT.getD j.1 (0, 0)).1 ≤ 2 ∧ 0 ≤ (effT.getD j.1 (0, 0)).2 ∧ (effT.getD j.1 (0, 0)).2 ≤ 2 := by decide
    exact H ⟨i, h⟩
  · have e : effT.getD i (0, 0) = (0, 0) := by
      rw [List.getD_eq_getElem?_getD, List.getElem?_eq_none (by simp [effT]; omega)]; rfl
    rw [e]; decide
theorem takes_le (op : Int) : 0 ≤ takesC op ∧ takesC op ≤ 2 := ⟨(effT_le _).1, (effT_le _).2.1⟩
theorem leaves_le (op : Int) : 0 ≤ leavesC op ∧ leavesC op ≤ 2 := ⟨(effT_le _).2.2.1, (effT_le _).2.2.2⟩
def jumpsC (op : Int) : Bool := op == 25 || op == 26
/-- How many there are behind an instruction. -/
def thenC (V : Nat → Int) (i : Nat) (h : Int) : Int := h - takesC (V i) + leavesC (V i)

inductive Hi (V N : Nat → Int) : Nat → Int → Prop
  | start : Hi V N 0 0
  | jump {i : Nat} {h : Int} : Hi V N i h → takesC (V i) ≤ h → jumpsC (V i) = true → Hi V N (N i).toNat (thenC V i h)
  | next {i : Nat} {h : Int} : Hi V N i h → takesC (V i) ≤ h → endsC (V i) = false → Hi V N (i + 1) (thenC V i h)

theorem Hi.nonneg {V N : Nat → Int} {i : Nat} {h : Int} (hh : Hi V N i h) : 0 ≤ h := by
  cases hh with
  | start => omega
  | jump a b c => have := leaves_le (V ‹Nat›); unfold thenC; omega
  | next a b c => have := leaves_le (V ‹Nat›); unfold thenC; omega

def Fine (V N : Nat → Int) : Prop := ∀ i h, Hi V N i h → takesC (V i) ≤ h ∧ h ≤ 1000 ∧ ∀ h', Hi V N i h' → h' = h
def Okay (V N : Nat → Int) (n : Nat) : Prop := 0 < n ∧ firstBad V N n = n

theorem okay_at {V N : Nat → Int} {n : Nat} (h : Okay V N n) {i : Nat} (hi : i < n) : wrongC (V i) (N i) n = false ∧ (i + 1 = n → endsC (V i) = true) := by
  have hb := firstBad_before V N n i (by rw [h.2]; exact hi)
  unfold badAt at hb
  simp only [Bool.or_eq_false_iff, Bool.and_eq_false_iff, decide_eq_false_iff_not, Bool.not_eq_false'] at hb
  refine ⟨hb.1, fun e => ?_⟩
  rcases hb.2 with h2 | h2
  · exact absurd e h2
  · simpa using h2
theorem okay_op {V N : Nat → Int} {n : Nat} (h : Okay V N n) {i : Nat} (hi : i < n) : 0 ≤ V i ∧ V i < 34 := by
  have := (okay_at h hi).1
  unfold wrongC at this
  simp only [Bool.or_eq_false_iff, Bool.not_eq_false'] at this
  have h1 := this.1.1
  unfold rightC at h1
  simp only [Bool.and_eq_true, decide_eq_true_eq] at h1
  exact ⟨h1.1.1, h1.1.2⟩
theorem okay_jump {V N : Nat → Int} {n : Nat} (h : Okay V N n) {i : Nat} (hi : i < n) (hj : jumpsC (V i) = true) : 0 ≤ N i ∧ N i < n := by
  have := (okay_at h hi).1
  unfold wrongC at this
  simp only [Bool.or_eq_false_iff, Bool.not_eq_false'] at this
  have h1 := this.1.2
  unfold leadsC at h1
  unfold jumpsC at hj
  simp only [Bool.or_eq_true, beq_iff_eq] at hj
  simp only [Bool.and_eq_false_iff, Bool.or_eq_false_iff, beq_eq_false_iff_ne, decide_eq_false_iff_not] at h1
  rcases h1 with h1 | h1 <;> omega
theorem okay_next {V N : Nat → Int} {n : Nat} (h : Okay V N n) {i : Nat} (hi : i < n) (hj : endsC (V i) = false) : i + 1 < n := by
  rcases Nat.lt_or_ge (i + 1) n with h1 | h1
  · exact h1
  · have := (okay_at h hi).2 (by omega)
    rw [hj] at this; cases this
theorem Hi.lt {V N : Nat → Int} {n : Nat} (hk : Okay V N n) {i : Nat} {h : Int} (hh : Hi V N i h) : i < n := by
  induction hh with
  | start => exact hk.1
  | jump a b c ih => have := okay_jump hk ih c; omega
  | next a b c ih => exact okay_next hk ih c

/-! ### What is known so far: H i, below nought where nothing is -/
def upd (H : Nat → Int) (t : Nat) (v : Int) : Nat → Int := fun i => if i = t then v else H i
theorem upd_same (H : Nat → Int) (t : Nat) (v : Int) : upd H t v t = v := by simp [upd]
theorem upd_other (H : Nat → Int) (t : Nat) (v : Int) {i : Nat} (h : i ≠ t) : upd H t v i = H i := by simp [upd, h]
def cnt (H : Nat → Int) (n : Nat) : Nat := (List.range n).countP fun i => decide (0 ≤ H i)
theorem cnt_le (H : Nat → Int) (n : Nat) : cnt H n ≤ n := by
  have := List.countP_le_length (p := fun i => decide (0 ≤ H i)) (l := List.range n)
  simpa [cnt] using this
theorem cnt_succ (H : Nat → Int) (n : Nat) : cnt H (n + 1) = cnt H n + (if 0 ≤ H n then 1 else 0) := by
  unfold cnt; rw [List.range_succ, List.countP_append]; simp
theorem cnt_upd (H : Nat → Int) (t : Nat) (v : Int) (ht : H t < 0) (hv : 0 ≤ v) : ∀ n : Nat, cnt (upd H t v) n = cnt H n + (if t < n then 1 else 0)
  | 0 => by simp [cnt]
  | n + 1 => by
    rw [cnt_succ, cnt_succ, cnt_upd H t v ht hv n]
    by_cases h : n = t
    · subst h; rw [upd_same, if_pos hv, if_neg (show ¬ 0 ≤ H n by omega)]; simp
    · rw [upd_other _ _ _ h]
      by_cases h1 : t < n
      · simp [h1, show t < n + 1 by omega]; omega
      · simp [h1, show ¬ t < n + 1 by omega]

structure Known (V N : Nat → Int) (H : Nat → Int) : Prop where
  sound : ∀ i, 0 ≤ H i → Hi V N i (H i)
  low : ∀ i, H i ≤ 1000
  none : ∀ i, H i < 0 → H i = -1
def Done (V N : Nat → Int) (H : Nat → Int) (i : Nat) : Prop :=
  takesC (V i) ≤ H i ∧ (jumpsC (V i) = true → H (N i).toNat = thenC V i (H i)) ∧ (endsC (V i) = false → H (i + 1) = thenC V i (H i))
/-- All is done but the ones of L, and x. -/
def But (V N : Nat → Int) (H : Nat → Int) (L : List Nat) (x : Nat → Prop) : Prop := ∀ i, 0 ≤ H i → i ∈ L ∨ x i ∨ Done V N H i

theorem known_start (V N : Nat → Int) : Known V N (fun _ => -1) := ⟨fun i hi => by simp at hi, fun i => by simp, fun i _ => rfl⟩
theorem but_start (V N : Nat → Int) : But V N (fun _ => -1) [] (fun _ => False) := fun i hi => by simp at hi
theorem Known.put {V N H : Nat → Int} (hK : Known V N H) {t : Nat} {v : Int} (hv : Hi V N t v) (ht : H t < 0) (hlow : v ≤ 1000) : Known V N (upd H t v) := by
  refine ⟨fun i hi => ?_, fun i => ?_, fun i hi => ?_⟩
  · by_cases h : i = t
    · subst h; rw [upd_same]; exact hv
    · rw [upd_other _ _ _ h] at hi ⊢; exact hK.sound i hi
  · by_cases h : i = t
    · subst h; rw [upd_same]; exact hlow
    · rw [upd_other _ _ _ h]; exact hK.low i
  · by_cases h : i = t
    · subst h; rw [upd_same] at hi; have := hv.nonneg; omega
    · rw [upd_other _ _ _ h] at hi ⊢; exact hK.none i hi
theorem Done.put {V N H : Nat → Int} {i t : Nat} {v : Int} (hd : Done V N H i) (hi : 0 ≤ H i) (ht : H t < 0) : Done V N (upd H t v) i := by
  have hne : i ≠ t := fun e => by subst e; omega
  have h2 : 0 ≤ thenC V i (H i) := by have := leaves_le (V i); have := hd.1; unfold thenC; omega
  refine ⟨by rw [upd_other _ _ _ hne]; exact hd.1, fun hj => ?_, fun he => ?_⟩
  · have e := hd.2.1 hj
    rw [upd_other _ _ _ hne, upd_other _ _ _ (fun e2 => by rw [e2] at e; omega)]; exact e
  · have e := hd.2.2 he
    rw [upd_other _ _ _ hne, upd_other _ _ _ (fun e2 => by rw [e2] at e; omega)]; exact e
theorem But.put {V N H : Nat → Int} {L : List Nat} {x : Nat → Prop} (hB : But V N H L x) {t : Nat} {v : Int} (ht : H t < 0) : But V N (upd H t v) (L ++ [t]) x := by
  intro i hi
  by_cases h : i = t
  · exact .inl (by simp [h])
  · rw [upd_other _ _ _ h] at hi
    rcases hB i hi with h1 | h1 | h1
    · exact .inl (by simp [h1])
    · exact .inr (.inl h1)
    · exact .inr (.inr (h1.put hi ht))
theorem But.pop {V N H : Nat → Int} {L : List Nat} {i : Nat} (hB : But V N H (L ++ [i]) (fun _ => False)) : But V N H L (fun j => j = i) := by
  intro j hj
  rcases hB j hj with h | h | h
  · rcases List.mem_append.1 h with h | h
    · exact .inl h
    · exact .inr (.inl (by simpa using h))
  · exact h.elim
  · exact .inr (.inr h)
theorem But.shut {V N H : Nat → Int} {L : List Nat} {i : Nat} (hB : But V N H L (fun j => j = i)) (hd : Done V N H i) : But V N H L (fun _ => False) := by
  intro j hj
  rcases hB j hj with h | h | h
  · exact .inl h
  · subst h; exact .inr (.inr hd)
  · exact .inr (.inr h)

theorem all_done {V N H : Nat → Int} (hF : H 0 = 0) (hB : ∀ i, 0 ≤ H i → Done V N H i) : ∀ i h, Hi V N i h → H i = h := by
  intro i h hh
  induction hh with
  | start => exact hF
  | jump a b c ih =>
    have h0 := a.nonneg
    rw [← ih] at h0
    rw [(hB _ h0).2.1 c, ih]
  | next a b c ih =>
    have h0 := a.nonneg
    rw [← ih] at h0
    rw [(hB _ h0).2.2 c, ih]
theorem fine_of_done {V N H : Nat → Int} (hK : Known V N H) (hF : H 0 = 0) (hB : ∀ i, 0 ≤ H i → Done V N H i) : Fine V N := by
  intro i h hh
  have e := all_done hF hB i h hh
  have h0 := hh.nonneg
  refine ⟨?_, ?_, fun h' hh' => ?_⟩
  · have := (hB i (by omega)).1; omega
  · have := hK.low i; omega
  · rw [← all_done hF hB i h' hh', e]
theorem not_fine_takes {V N H : Nat → Int} (hK : Known V N H) {i : Nat} (hi : 0 ≤ H i) (h : H i < takesC (V i)) : ¬ Fine V N := fun hf => by
  have := (hf i _ (hK.sound i hi)).1; omega
theorem not_fine_high {V N : Nat → Int} {t : Nat} {v : Int} (hv : Hi V N t v) (h : 1000 < v) : ¬ Fine V N := fun hf => by
  have := (hf t v hv).2.1; omega
theorem not_fine_two {V N H : Nat → Int} (hK : Known V N H) {t : Nat} {v : Int} (hv : Hi V N t v) (ht : 0 ≤ H t) (h : H t ≠ v) : ¬ Fine V N := fun hf => by
  exact h ((hf t v hv).2.2 _ (hK.sound t ht))

/-- The one list there is. -/
noncomputable def hOf (V N : Nat → Int) (i : Nat) : Int := open Classical in if h : ∃ x, Hi V N i x then h.choose else -1
theorem hOf_eq {V N H : Nat → Int} (hK : Known V N H) (hF : H 0 = 0) (hB : ∀ i, 0 ≤ H i → Done V N H i) (i : Nat) : hOf V N i = H i := by
  unfold hOf
  split
  · rename_i h; exact (all_done hF hB i _ h.choose_spec).symm
  · rename_i h
    rcases Int.lt_or_le (H i) 0 with h0 | h0
    · exact (hK.none i h0).symm
    · exact absurd ⟨_, hK.sound i h0⟩ h
noncomputable def hList (V N : Nat → Int) (n : Nat) : List Int := (List.range n).map (hOf V N)
theorem hList_length (V N : Nat → Int) (n : Nat) : (hList V N n).length = n := by simp [hList]
theorem hList_get (V N : Nat → Int) (n i : Nat) (h : i < n) : (hList V N n).getD i 0 = hOf V N i := by simp [hList, h]
theorem hOf_le {V N : Nat → Int} (i : Nat) (hf : Fine V N) : -1 ≤ hOf V N i ∧ hOf V N i ≤ 1000 := by
  unfold hOf
  split
  · rename_i h
    have h1 := hf i _ h.choose_spec
    have h2 := h.choose_spec.nonneg
    omega
  · omega
end Go.Proofs.Ytgkdphnhfjjepaa

/- Contracts of moves, effect, Place; of the walk's reach. -/
namespace Go.Proofs.Ytgkdphnhfjjepaa
open Go.RowKit Go.Waf
set_option maxRecDepth 100000
set_option linter.unusedVariables false

theorem elemInt : Elem Try.prog 56 3 1 8 := Elem.mk' (z := .int .i64 0) Try.underlying56 (by kernel_rfl) rfl (by decide)
def ints (xs : List Int) : List Value := xs.map (Value.int .i64)
theorem one_ints (xs : List Int) : ∀ u ∈ ints xs, u.oneCell' = true := by
  intro u hu; obtain ⟨n, _, rfl⟩ := List.mem_map.1 hu; rfl
theorem ints_append (xs ys : List Int) : ints (xs ++ ys) = ints xs ++ ints ys := List.map_append
theorem ints_length (xs : List Int) : (ints xs).length = xs.length := List.length_map ..
theorem ints_get (xs : List Int) (j : Nat) (h : j < xs.length) : (ints xs)[j]? = some (.int .i64 (xs.getD j 0)) := by simp [ints, h]
theorem ints_set (xs : List Int) (j : Nat) (u : Int) : (ints xs).set j (.int .i64 u) = ints (xs.set j u) := by simp [ints, List.map_set]

theorem op34 {op : Int} (h : 0 ≤ op ∧ op < 34) : op = 0 ∨ op = 1 ∨ op = 2 ∨ op = 3 ∨ op = 4 ∨ op = 5 ∨ op = 6 ∨ op = 7 ∨ op = 8 ∨ op = 9 ∨ op = 10 ∨ op = 11 ∨ op = 12 ∨ op = 13 ∨ op = 14 ∨ op = 15 ∨ op = 16 ∨ op = 17 ∨ op = 18 ∨ op = 19 ∨ op = 20 ∨ op = 21 ∨ op = 22 ∨ op = 23 ∨ op = 24 ∨ op = 25 ∨ op = 26 ∨ op = 27 ∨ op = 28 ∨ op = 29 ∨ op = 30 ∨ op = 31 ∨ op = 32 ∨ op = 33 := by omega
set_option maxHeartbeats 3200000 in
theorem moves_any (op : Int) (h : 0 ≤ op ∧ op < 34) (w : World) : Calls Try.prog 61 #[.int .i64 op] w fun e w' => e = .returned (.tuple #[.int .i64 (takesC op), .int .i64 (leavesC op)]) ∧ w = w' := by
  rcases op34 h with rfl | rfl | rfl | rfl | rfl | rfl | rfl | rfl | rfl | rfl | rfl | rfl | rfl | rfl | rfl | rfl | rfl | rfl | rfl | rfl | rfl | rfl | rfl | rfl | rfl | rfl | rfl | rfl | rfl | rfl | rfl | rfl | rfl | rfl
  all_goals
    clear h
    go_enter Try.func61, Try.ntmps61
    go_wp2_with fail
    go_ret2
    exact ⟨rfl, rfl⟩
set_option maxHeartbeats 3200000 in
theorem effect_any (op : Int) (h : 0 ≤ op ∧ op < 34) (w : World) : Calls Try.prog 55 #[.int .i64 op] w fun e w' => e = .returned (.tuple #[.int .i64 (takesC op), .int .i64 (leavesC op)]) ∧ w = w' := by
  rcases op34 h with rfl | rfl | rfl | rfl | rfl | rfl | rfl | rfl | rfl | rfl | rfl | rfl | rfl | rfl | rfl | rfl | rfl | rfl | rfl | rfl | rfl | rfl | rfl | rfl | rfl | rfl | rfl | rfl | rfl | rfl | rfl | rfl | rfl | rfl
  all_goals
    clear h
    go_enter Try.func55, Try.ntmps55
    go_wp2_with fail
    go_ret2
    exact ⟨rfl, rfl⟩

/-! ### The map and the function that it is -/
open Go.Maps (Keyed IsMap int_keyed keyOf_int_mk has_put_same has_put_other atKey_put_same atKey_put_other)
theorem lawI : Keyed Try.prog 3 := int_keyed Try.underlying3
theorem zeroI (w : World) : (zeroValue 3).run Try.prog w = .ok (.int .i64 0) w := by kernel_rfl
def keyL (i : Nat) : Lit := .int .i64 (i : Int)
structure MapIs (D : DataW Unit) (H : Nat → Int) : Prop where
  isMap : IsMap D
  has : ∀ i, Maps.has D (keyL i) = decide (0 ≤ H i)
  at_ : ∀ i, 0 ≤ H i → D.atKey (keyL i) (.lit (.int .i64 0)) = .lit (.int .i64 (H i))
theorem keyL_ne {i t : Nat} (h : i ≠ t) : keyL i ≠ keyL t := by
  unfold keyL; intro e
  simp only [Lit.int.injEq, true_and] at e
  omega
theorem MapIs.put {D : DataW Unit} {H : Nat → Int} (h : MapIs D H) (t : Nat) (v : Int) (hv : 0 ≤ v) : MapIs (D.put (keyL t) (.lit (.int .i64 v))) (upd H t v) := by
  have hk : WideAt.IsKeyLit (keyL t) := trivial
  refine ⟨h.isMap.put _ _, fun i => ?_, fun i hi => ?_⟩
  · by_cases e : i = t
    · subst e; rw [has_put_same h.isMap hk, upd_same]; simp [hv]
    · rw [has_put_other (keyL_ne e), upd_other _ _ _ e, h.has]
  · by_cases e : i = t
    · subst e; rw [atKey_put_same h.isMap hk, upd_same]
    · rw [upd_other _ _ _ e] at hi ⊢
      rw [atKey_put_other (keyL_ne e)]; exact h.at_ i hi
theorem mapIs_start : MapIs (.map []) (fun _ => -1) := ⟨⟨[], rfl⟩, fun i => by simp [Maps.has], fun i hi => by simp at hi⟩
def lits (L : List Nat) : List Int := L.map fun i : Nat => (i : Int)

/-- The walk's own block q: its code, its map mb, what is to be gone on from. -/
structure WalkAt (w0 w : World) (q mb : Nat) (lv tv : Value) (n : Nat) (H : Nat → Int) (L : List Nat) : Prop where
  blk : w.heap[q]? = some (.cells #[lv, .map (some mb), tv] 80 (0, 0))
  map : ∃ D, w.ownsMap Try.prog 3 (plainElem (H := Unit) Try.prog 3) mb (cnt H n) D ∧ MapIs D H
  row : w.ownsRow w0.heap.size 3 1 tv L.length (ints (lits L))
  bq : w0.heap.size ≤ q
  bm : w0.heap.size ≤ mb
  ne : q ≠ mb
  tq : tv.ownBlock ≠ some q
  tm : tv.ownBlock ≠ some mb
  old : Below w0.heap.size w0 w
theorem WalkAt.keep {w0 w w' : World} {q mb : Nat} {lv tv : Value} {n : Nat} {H : Nat → Int} {L : List Nat} (h : WalkAt w0 w q mb lv tv n H L) (hb : Below w.heap.size w w') : WalkAt w0 w' q mb lv tv n H L := by
  obtain ⟨D, h1, h2⟩ := h.map
  have hg : w.grownBy w' none := ⟨hb.os, hb.tape, hb.output, hb.size, fun k hk _ => hb.block k hk⟩
  refine ⟨blk_grown h.blk hg (by simp), ⟨D, h1.kept hg (by simp), h2⟩, h.row.kept hg (Classical.em _), h.bq, h.bm, h.ne, h.tq, h.tm, h.old.trans (hb.mono h.old.size)⟩

/-- What reach leaves: it can't be, or it is noted. -/
def ReachPost (V N : Nat → Int) (w0 w : World) (q mb : Nat) (lv tv : Value) (n : Nat) (H : Nat → Int) (L : List Nat) (t : Nat) (v : Int) (e : Ending) (w' : World) : Prop :=
  Below w0.heap.size w0 w' ∧ Fr (fun k => k = q ∨ k = mb ∨ tv.ownBlock = some k) w w' ∧ ((e = .returned (.bool false) ∧ ¬ Fine V N ∧ (1000 < v ∨ 0 ≤ H t)) ∨ ∃ H' L' tv', e = .returned (.bool true) ∧ WalkAt w0 w' q mb lv tv' n H' L' ∧ Known V N H' ∧ (∀ x, But V N H L x → But V N H' L' x) ∧ (∀ i, 0 ≤ H i → H' i = H i) ∧ H' t = v ∧ 2 * (n - cnt H' n) + L'.length ≤ 2 * (n - cnt H n) + L.length ∧ (∀ i ∈ L', i ∈ L ∨ i = t))

set_option maxHeartbeats 1600000 in
theorem reach_any (V N : Nat → Int) (w0 w : World) (q mb : Nat) (lv tv : Value) (n : Nat) (hn : n ≤ 100000) (H : Nat → Int) (L : List Nat) (hL : L.length ≤ 200000) (hW : WalkAt w0 w q mb lv tv n H L) (hK : Known V N H) (t : Nat) (v : Int) (ht : t < n) (hv : Hi V N t v) (hv2 : v ≤ 100000) :
    Calls Try.prog 46 #[.pointer (some ⟨q, 0, none⟩), .int .i64 t, .int .i64 v] w (ReachPost V N w0 w q mb lv tv n H L t v) := by
  have hv0 := hv.nonneg
  have hsz := hW.old.size
  have hqm := hW.ne
  have hcn := cnt_le H n
  obtain ⟨D, hown, hD⟩ := hW.map
  obtain ⟨ta, tc, rfl, tc1, tc2, tc3⟩ := owns_shape hW.row
  have c1 : w.cell? ⟨q, 1, none⟩ = some (.map (some mb)) := by rw [cell_of_row w q 1 _ _ _ hW.blk]; rfl
  have c2 : w.cell? ⟨q, 2, none⟩ = some (.slice ta L.length tc) := by rw [cell_of_row w q 2 _ _ _ hW.blk]; rfl
  have hkey : keyOf Try.prog 3 (.int .i64 (t : Int)) = some (keyL t) := keyOf_int_mk Try.underlying3 (WalkArith.wf_i64 (by omega))
  have hat := hD.at_ t
  have hhas := hD.has t
  obtain ⟨x, hx⟩ : ∃ x, x = H t := ⟨_, rfl⟩
  rw [← hx] at hat hhas
  have HW := Lib.hid hW
  have HK := Lib.hid hK
  have HV := Lib.hid hv
  have HO := Lib.hid hown
  have HD := Lib.hid hD
  have HKEY := Lib.hid hkey
  have HX := Lib.hid hx
  have HAT := Lib.hid hat
  have HQM := Lib.hid hqm
  have HC := Lib.hid hcn
  clear hW hK hv hown hD hkey hx hat hqm hcn
  by_cases hhi : 1000 < v
  · have HH := Lib.hid hhas
    clear hhas
    go_enter Try.func46, Try.ntmps46
    go_wp2_with (at_lookup; refine wpList_lookup_own_ok_int _ rfl _ _ 78 rfl 3 3 .i64 lawI Try.underlying78 Try.underlying3 (zeroI _) mb _ _ rfl HO.out _ _ rfl HKEY.out ?_; intro c _ _)
    go_ret
    exact ⟨HW.out.old, Fr.refl _ _, .inl ⟨rfl, not_fine_high HV.out hhi, .inl hhi⟩⟩
  by_cases hs : 0 ≤ x
  · have hh : Maps.has D (keyL t) = true := by rw [hhas]; simp [hs]
    have HA := Lib.hid (HAT.out hs)
    have HH := Lib.hid hh
    clear hhas hh
    by_cases he : x = v
    · have qe : (x == v) = true := by simp [he]
      go_enter Try.func46, Try.ntmps46
      go_wp2_with (first | (at_lookup; refine wpList_lookup_own_ok_int _ rfl _ _ 78 rfl 3 3 .i64 lawI Try.underlying78 Try.underlying3 (zeroI _) mb _ _ rfl HO.out _ _ rfl HKEY.out ?_; rw [HH.out]; intro c _ _) | (at_lookup; refine wpList_lookup_own_int _ rfl _ _ 78 rfl 3 3 .i64 lawI Try.underlying78 Try.underlying3 (zeroI _) mb _ _ rfl HO.out _ _ rfl HKEY.out ?_; intro c2 hc2 _; rw [HA.out] at hc2; simp only [DataW.lit.injEq, Lit.int.injEq, true_and] at hc2; subst hc2))
      go_ret
      exact ⟨HW.out.old, Fr.refl _ _, .inr ⟨H, L, _, rfl, HW.out, HK.out, fun _ h => h, fun _ _ => rfl, by rw [← HX.out, he], Nat.le_refl _, fun _ h => .inl h⟩⟩
    · have qe : (x == v) = false := by simp [he]
      go_enter Try.func46, Try.ntmps46
      go_wp2_with (first | (at_lookup; refine wpList_lookup_own_ok_int _ rfl _ _ 78 rfl 3 3 .i64 lawI Try.underlying78 Try.underlying3 (zeroI _) mb _ _ rfl HO.out _ _ rfl HKEY.out ?_; rw [HH.out]; intro c _ _) | (at_lookup; refine wpList_lookup_own_int _ rfl _ _ 78 rfl 3 3 .i64 lawI Try.underlying78 Try.underlying3 (zeroI _) mb _ _ rfl HO.out _ _ rfl HKEY.out ?_; intro c2 hc2 _; rw [HA.out] at hc2; simp only [DataW.lit.injEq, Lit.int.injEq, true_and] at hc2; subst hc2))
      go_ret
      exact ⟨HW.out.old, Fr.refl _ _, .inl ⟨rfl, not_fine_two HK.out HV.out (by rw [← HX.out]; exact hs) (by rw [← HX.out]; exact he), .inr (by rw [← HX.out]; exact hs)⟩⟩
  · have hh : Maps.has D (keyL t) = false := by rw [hhas]; simp [hs]
    have HH := Lib.hid hh
    clear hhas hh
    have hblk := HW.out.blk
    have hrow := HW.out.row
    have hrow' : w.ownsRow w0.heap.size 3 1 (.slice ta L.length tc) L.length (ints (lits L)) := hrow
    have HB := Lib.hid hblk
    have HR := Lib.hid hrow'
    clear hblk hrow hrow'
    go_enter Try.func46, Try.ntmps46
    go_wp2_with (first | (at_lookup; refine wpList_lookup_own_ok_int _ rfl _ _ 78 rfl 3 3 .i64 lawI Try.underlying78 Try.underlying3 (zeroI _) mb _ _ rfl HO.out _ _ rfl HKEY.out ?_; rw [HH.out]; intro c _ _) | (at_mapUpdate; refine wpList_mapUpdate_own _ rfl _ _ _ 78 rfl 3 3 lawI Try.underlying78 _ mb _ _ rfl HO.out (by have := HC.out; unfold maxLen; omega) _ _ _ rfl rfl HKEY.out _ [] (plainElem_int Try.underlying3 (WalkArith.wf_i64 (by omega))) ?_; intro w1 hown1 hg1; have hb1 := blk_grown HB.out hg1 (fun e => HQM.out (Option.some.inj e).symm); have d1 : w1.cell? ⟨q, 2, none⟩ = some (.slice ta L.length tc) := by { rw [cell_of_row w1 q 2 _ _ _ hb1]; rfl }; have hr1 := (HR.out.kept hg1 (.inr HW.out.tm)).alloc (.cells #[.int .i64 (t : Int)] 3); have HB1 := Lib.hid hb1; have HR1 := Lib.hid hr1; have HO1 := Lib.hid hown1; have HG1 := Lib.hid hg1; clear hb1 hr1 hown1 hg1) | (at_builtin; refine app_own2 _ elemInt rfl _ _ rfl w0.heap.size _ L.length (ints (lits L)) rfl HR1.out _ 1 (ints [(t : Int)]) rfl (rd_new _ _ _ _ _ (by simp) (by simp [maxLen])) (one_ints _) (by simp only [maxLen]; omega) (by omega) (by have := HG1.out.size; simp; omega) ?_; intro v2 w2 hown2 hg2 hfr2; obtain ⟨h2, cap2, rfl, _, _, _, _⟩ := owns_some hown2 (by omega); have hb2 := blk_grown (blk_alloc HB1.out _) hg2 HW.out.tq; have d2 : w2.cell? ⟨q, 2, none⟩ = some (.slice ta L.length tc) := by { rw [cell_of_row w2 q 2 _ _ _ hb2]; rfl }; have f2 := frozen_of_row w2 q 2 _ _ hb2))
    go_ret
    have hx0 : H t < 0 := by rw [← HX.out]; omega
    have hc : cnt (upd H t v) n = cnt H n + 1 := by rw [cnt_upd H t v hx0 hv0, if_pos ht]
    have hmw : mb < w1.heap.size := HO1.out.lt
    have hqw : q < w1.heap.size := (Array.getElem?_eq_some_iff.1 HB1.out).1
    have htq : (Value.slice (some ⟨h2, 0, none⟩) (L.length + 1) cap2).ownBlock ≠ some q := by
      intro e
      rcases hfr2 _ e with h | h
      · exact HW.out.tq h
      · simp at h; omega
    have htm : (Value.slice (some ⟨h2, 0, none⟩) (L.length + 1) cap2).ownBlock ≠ some mb := by
      intro e
      rcases hfr2 _ e with h | h
      · exact HW.out.tm h
      · simp at h; omega
    have o1 := HW.out.old.grown HG1.out hsz (fun k hk => by cases hk; exact HW.out.bm)
    have o2 := below_of_grown (o1.alloc o1.size (.cells #[.int .i64 (t : Int)] 3)) (by have := o1.size; simp; omega) HR1.out (Nat.le_refl _) rfl hg2
    have hold := o2.setCell (p := ⟨q, 2, none⟩) HW.out.bq (Value.slice (some ⟨h2, 0, none⟩) (L.length + 1) cap2)
    have hfr : Fr (fun k => k = q ∨ k = mb ∨ (Value.slice ta L.length tc).ownBlock = some k) w (w2.setCell ⟨q, 2, none⟩ (Value.slice (some ⟨h2, 0, none⟩) (L.length + 1) cap2)) :=
      (((Fr.of_grown (F := fun k => k = q ∨ k = mb ∨ (Value.slice ta L.length tc).ownBlock = some k) HG1.out (fun k hk => by cases hk; exact .inr (.inl rfl))).alloc _).trans (Fr.of_grown (F := fun k => k = q ∨ k = mb ∨ (Value.slice ta L.length tc).ownBlock = some k) hg2 (fun k hk => .inr (.inr hk))) (fun _ _ h => h)).setCell (.inr (.inl rfl)) _
    refine ⟨hold, hfr, .inr ⟨upd H t v, L ++ [t], _, rfl, ⟨?_, ⟨_, ?_, HD.out.put t v hv0⟩, ?_, HW.out.bq, HW.out.bm, HW.out.ne, htq, htm, hold⟩, HK.out.put HV.out hx0 (by omega), fun _ h => h.put hx0, fun i hi => upd_other _ _ _ (fun e => by rw [e] at hi; omega), upd_same _ _ _, ?_, ?_⟩⟩
    · rw [heap_setCell_same w2 q 2 _ _ _ hb2]; rfl
    · rw [hc]
      exact ((HO1.out.alloc _).kept hg2 (fun e => HW.out.tm e.symm)).setCell (fun e => HQM.out e.symm) _
    · have e1 : lits (L ++ [t]) = lits L ++ [(t : Int)] := by simp [lits]
      rw [e1, ints_append, List.length_append]
      exact owns_set_other hown2 _ _ htq
    · have := cnt_le (upd H t v) n
      simp; omega
    · intro i hi
      rcases List.mem_append.1 hi with h | h
      · exact .inl h
      · exact .inr (by simpa using h)
end Go.Proofs.Ytgkdphnhfjjepaa

/- The program's try: nothing to be done. -/
namespace Go.Proofs.Ytgkdphnhfjjepaa
open Go.RowKit Go.Waf
set_option maxRecDepth 100000
set_option linter.unusedVariables false

/-- What is left behind a fault that was caught: all but the operands, the input, the places stands. -/
structure Rest (w : World) (B q : Nat) (F : Nat → Prop) (mv kv ov : Value) (s : SSt) (w' : World) : Prop where
  blk : ∃ l : List Value, l.length = 11 ∧ w'.heap[q]? = some (.cells l.toArray (typeS true) (0, 0))
  mem : w'.ownsRow B 21 1 mv s.mem.length (i32s s.mem)
  kept : Row true w' B 100 2 kv s.kept.length (keptCells s.kept.reverse)
  out : w'.ownsRow B 5 1 ov s.out.length (byt s.out)
  fr : Fr F w w'
section
variable {w : World} {B q : Nat} {F : Nat → Prop} {cv mv iv sv kv ov : Value} {s : SSt}
theorem PnP.rest {w0 : World} {s1 : SSt} (h : PnP w B q F cv mv kv ov s1 w0) (e1 : s1.mem = s.mem) (e2 : s1.kept = s.kept) (e3 : s1.out = s.out) : Rest w B q F mv kv ov s w0 := by
  obtain ⟨F', iv', sv', s2, h1, ⟨f1, f2, f3, _⟩, hm⟩ := h
  refine ⟨⟨_, ?_, h1.blk⟩, ?_, ?_, ?_, hm.fr⟩
  · rfl
  · have := h1.mem; rw [f1, e1] at this; exact this
  · have := h1.kept; rw [f2, e2] at this; exact this
  · have := h1.out; rw [f3, e3] at this; exact this
theorem SM.rest (h : SM true w B q F cv mv iv sv kv ov s) : Rest w B q F mv kv ov s w := (PnP.same h).rest rfl rfl rfl
/-- A block beside the machine is written. -/
theorem Rest.other {w0 w1 : World} {r : Nat} (h : SM true w B q F cv mv iv sv kv ov s) (hr : Rest w B q F mv kv ov s w0) (hf : Fr (fun k => k = r) w0 w1) (hn : ¬ F r) (hrw : w.heap.size ≤ r) : Rest w B q F mv kv ov s w1 := by
  have hne : ∀ k, F k → k ≠ r := fun k hk e => hn (e ▸ hk)
  obtain ⟨l, hl, hb⟩ := hr.blk
  refine ⟨⟨l, hl, ?_⟩, hf.owns hr.mem fun k hk => hne k (h.fm k hk).1, hr.kept.keep hf fun k hk => hne k (h.fk k hk).1, hf.owns hr.out fun k hk => hne k (h.fo k hk).1, hr.fr.trans hf fun i hi e => by omega⟩
  rw [hf.block q (Array.getElem?_eq_some_iff.1 hb).1 (hne q h.fq)]; exact hb
theorem Rest.pre {w0 w1 : World} (h : Rest w0 B q F mv kv ov s w1) (hm : Fr F w w0) : Rest w B q F mv kv ov s w1 := ⟨h.blk, h.mem, h.kept, h.out, hm.trans h.fr fun _ _ h => h⟩
theorem FuP.pre {w0 w1 : World} {s1 : SSt} (h : FuP w0 B q F cv mv iv s1 w1) (hm : Mv w F F w0) : FuP w B q F cv mv iv s1 w1 := by
  obtain ⟨F', a, b, c, d, h1, h2, h3⟩ := h; exact ⟨F', a, b, c, d, h1, h2, hm.trans h3⟩
theorem PnP.fr {w0 : World} {s1 : SSt} (h : PnP w B q F cv mv kv ov s1 w0) : Fr F w w0 := by
  obtain ⟨F', iv', sv', s2, h1, _, hm⟩ := h; exact hm.fr
theorem not_F (h : SM true w B q F cv mv iv sv kv ov s) {r : Nat} (hr : w.heap.size ≤ r) : ¬ F r := fun hf => by have := (h.fb r hf).2; omega
/-- The cell of the result behind the closure. -/
theorem res_cell {w2 : World} {r : Nat} (hc : ∃ b : Bool, w2.heap[r]? = some (.cells #[.bool b] 4 (0, 0))) :
    (∃ v, w2.cell? ⟨r, 0, none⟩ = some v) ∧ w2.frozen? ⟨r, 0, none⟩ = false ∧ ((w2.setCell ⟨r, 0, none⟩ (.bool false)).alloc (.cells #[] 84)).cell? ⟨r, 0, none⟩ = some (.bool false) := by
  obtain ⟨b, hb⟩ := hc
  have h1 : w2.cell? ⟨r, 0, none⟩ = some (.bool b) := by rw [cell_of_row w2 r 0 _ _ _ hb]; rfl
  refine ⟨⟨_, h1⟩, frozen_of_row w2 r 0 _ _ hb, alloc_keep ?_⟩
  have h2 := heap_set_cells (w := w2) (q := r) (j := 0) (l := [.bool b]) (T := 4) hb (.bool false)
  rw [cell_of_row _ r 0 _ _ _ h2]; rfl
theorem res_cell_of {w0 w2 : World} {F : Nat → Prop} {r : Nat} (hf : Fr F w0 w2) (hn : ¬ F r) {b : Bool} (h : w0.heap[r]? = some (.cells #[.bool b] 4 (0, 0))) : ∃ b : Bool, w2.heap[r]? = some (.cells #[.bool b] 4 (0, 0)) := ⟨b, by rw [hf.block r (Array.getElem?_eq_some_iff.1 h).1 hn]; exact h⟩
theorem Rest.caught {w2 : World} (h : SM true w B q F cv mv iv sv kv ov s) (hr : Rest w B q F mv kv ov s w2) {r : Nat} (hrw : w.heap.size ≤ r) : Rest w B q F mv kv ov s ((w2.setCell ⟨r, 0, none⟩ (.bool false)).alloc (.cells #[] 84)) :=
  hr.other (r := r) h ((fr_set w2 r 0 (.bool false)).alloc _) (not_F h hrw) hrw
set_option maxHeartbeats 3200000 in
theorem try_out (h : SM true w B q F cv mv iv sv kv ov s) (hpc : ¬ (0 ≤ s.pc ∧ s.pc < s.code.length)) :
    Calls Try.prog 41 #[.pointer (some ⟨q, 0, none⟩)] w fun e w' => e = .returned (.bool false) ∧ Rest w B q F mv kv ov s w' := by
  have hmf : ∀ (fn : Fn) (first cap : Array Value) (w : World), (Instr.makeFunc fn first cap).run Try.prog w = .ok (.func fn first cap) w := fun _ _ _ _ => rfl
  obtain ⟨a, c, rfl, hn, hc, _⟩ := rd_shape h.code
  have H := Lib.hid h
  have c0 := h.p0
  have c7 := h.p7
  have hql := h.lt
  have hcl := h.fit.cl
  generalize s.pc = P at c7 hpc
  generalize hN : s.code.length = N at c0 hpc hcl hn
  have HCV := Lib.hid (show Value.slice a N c = Value.slice a s.code.length c from by rw [hN])
  clear h hN
  by_cases hp0 : 0 ≤ P
  · have hp1 : ¬ P < (N : Int) := by omega
    have hd : decide (P < (N : Int)) = false := by simp; omega
    clear hpc hp1
    go_enter_defers Try.func41, Try.ntmps41
    go_wp2_with fail
    obtain ⟨W1, hW1⟩ : ∃ W1 : World, W1 = w.alloc (.cells #[.bool false] 4) := ⟨_, rfl⟩
    have d0 : W1.cell? ⟨q, 0, none⟩ = some (.slice a N c) := by rw [hW1]; exact alloc_keep c0
    have d7 : W1.cell? ⟨q, 7, none⟩ = some (.int .i64 P) := by rw [hW1]; exact alloc_keep c7
    have hm1 : Fr F w W1.drew := by rw [hW1]; exact ((Fr.refl F w).alloc _).drewN 1
    have hM1 : SM true W1.drew B q F (.slice a N c) mv iv sv kv ov s := by rw [hW1, HCV.out]; exact (H.out.alloc _).drew
    have hcell : ∃ b : Bool, W1.drew.heap[w.heap.size]? = some (.cells #[.bool b] 4 (0, 0)) := ⟨false, by rw [hW1]; exact heap_alloc_new w _⟩
    obtain ⟨⟨v0, r1⟩, r2, r3⟩ := res_cell hcell
    have hrest := ((hM1.rest.pre hm1).caught H.out (r := w.heap.size) (Nat.le_refl _))
    rw [← hW1]
    clear hW1 hM1 hm1 hcell c0 c7
    refine wp_region_still_tail 17 (by kernel_rfl) (by kernel_rfl) ?_
    simp only [List.take_succ_cons, List.take_zero, List.drop_succ_cons, List.drop_zero]
    repeat still_step
    refine wpStill_nil ?_
    go_wp2_with fail
    refine (must_no _).mono ?_; rintro e w2 ⟨rfl, rfl⟩
    refine leaves_cons (f := 48) (args := #[.pointer (some ⟨w.heap.size, 0, none⟩)]) (by simp) (by simp [go_sem]) ?_
    refine (try1_panic w.heap.size v0 _ r1 r2).mono ?_
    rintro e u' w'' ⟨rfl, rfl, hw⟩
    rw [← hw] at r3 hrest
    have HR := Lib.hid hrest
    clear hw hrest
    simp [Leaves, settle, results, Try.results41, go_sem, r3]
    exact HR.out
  · have hd : decide (0 ≤ P) = false := by simp; omega
    clear hpc hp0
    go_enter_defers Try.func41, Try.ntmps41
    go_wp2_with fail
    obtain ⟨W1, hW1⟩ : ∃ W1 : World, W1 = w.alloc (.cells #[.bool false] 4) := ⟨_, rfl⟩
    have d0 : W1.cell? ⟨q, 0, none⟩ = some (.slice a N c) := by rw [hW1]; exact alloc_keep c0
    have d7 : W1.cell? ⟨q, 7, none⟩ = some (.int .i64 P) := by rw [hW1]; exact alloc_keep c7
    have hm1 : Fr F w W1.drew := by rw [hW1]; exact ((Fr.refl F w).alloc _).drewN 1
    have hM1 : SM true W1.drew B q F (.slice a N c) mv iv sv kv ov s := by rw [hW1, HCV.out]; exact (H.out.alloc _).drew
    have hcell : ∃ b : Bool, W1.drew.heap[w.heap.size]? = some (.cells #[.bool b] 4 (0, 0)) := ⟨false, by rw [hW1]; exact heap_alloc_new w _⟩
    obtain ⟨⟨v0, r1⟩, r2, r3⟩ := res_cell hcell
    have hrest := ((hM1.rest.pre hm1).caught H.out (r := w.heap.size) (Nat.le_refl _))
    rw [← hW1]
    clear hW1 hM1 hm1 hcell c0 c7
    refine wp_region_still_tail 17 (by kernel_rfl) (by kernel_rfl) ?_
    simp only [List.take_succ_cons, List.take_zero, List.drop_succ_cons, List.drop_zero]
    refine WS.out ?_
    repeat
      refine WS.step (fun K hK => ?_)
      go_simp
      refine hK _ ?_
      clear hK K
    refine WS.nil ?_
    go_wp2_with fail
    refine (must_no _).mono ?_; rintro e w2 ⟨rfl, rfl⟩
    refine leaves_cons (f := 48) (args := #[.pointer (some ⟨w.heap.size, 0, none⟩)]) (by simp) (by simp [go_sem]) ?_
    refine (try1_panic w.heap.size v0 _ r1 r2).mono ?_
    rintro e u' w'' ⟨rfl, rfl, hw⟩
    rw [← hw] at r3 hrest
    have HR := Lib.hid hrest
    clear hw hrest
    simp [Leaves, settle, results, Try.results41, go_sem, r3]
    exact HR.out
end
end Go.Proofs.Ytgkdphnhfjjepaa

/- The program's try: an instruction. -/
namespace Go.Proofs.Ytgkdphnhfjjepaa
open Go.RowKit Go.Waf
set_option maxRecDepth 100000
set_option linter.unusedVariables false

def Keeps (s s' : SSt) : Prop := s'.code = s.code ∧ s'.inp.length ≤ s.inp.length ∧ s'.mem.length = s.mem.length ∧ s'.out.length ≤ s.out.length + 1
theorem keeps_refl (s : SSt) : Keeps s s := ⟨rfl, Nat.le_refl _, rfl, by omega⟩
theorem reckon_keeps {s s' : SSt} {op : Int} (h : s.reckon op = some s') : Keeps s s' := by
  unfold SSt.reckon at h
  repeat' (split at h)
  all_goals first
    | (cases h; done)
    | (cases h; exact ⟨rfl, Nat.le_refl _, rfl, Nat.le_succ _⟩)
    | (obtain ⟨x, _, rfl⟩ := Option.map_eq_some_iff.1 h; exact ⟨rfl, Nat.le_refl _, rfl, Nat.le_succ _⟩)
theorem lead_keeps {s s' : SSt} {op k : Int} (ht : 0 ≤ s.top) (h : s.lead op k = some s') : Keeps s s' := by
  unfold SSt.lead at h
  repeat' (split at h)
  all_goals first
    | (cases h; done)
    | (cases h; exact ⟨rfl, Nat.le_refl _, rfl, Nat.le_succ _⟩)
    | (cases h; refine ⟨rfl, Nat.le_refl _, ?_, Nat.le_succ _⟩; simp; omega)
theorem lay_keeps {s s' : SSt} {x : Int} (h : s.lay x = some s') : Keeps s s' := by
  unfold SSt.lay at h
  split at h
  · cases h; exact ⟨rfl, Nat.le_refl _, rfl, Nat.le_succ _⟩
  · cases h
theorem carry_keeps {s s' : SSt} {op k : Int} (h : s.carry op k = some s') : Keeps s s' := by
  unfold SSt.carry at h
  by_cases h1 : op = 1
  · rw [if_pos h1] at h; exact lay_keeps h
  rw [if_neg h1] at h
  by_cases h2 : op = 2
  · rw [if_pos h2] at h
    split at h
    · cases h
    · exact lay_keeps h
  rw [if_neg h2] at h
  by_cases h3 : op = 3
  · rw [if_pos h3] at h
    split at h
    · cases h
    · cases h; exact ⟨rfl, Nat.le_refl _, rfl, Nat.le_succ _⟩
  rw [if_neg h3] at h
  by_cases h4 : op = 4
  · rw [if_pos h4] at h
    split at h
    · cases h; exact ⟨rfl, Nat.le_refl _, rfl, Nat.le_succ _⟩
    · cases h
  rw [if_neg h4] at h
  by_cases h5 : op = 5
  · rw [if_pos h5] at h
    exact lay_keeps h
  rw [if_neg h5] at h
  by_cases h6 : op = 6
  · rw [if_pos h6] at h
    split at h
    · cases h
    · split at h
      · cases h; exact ⟨rfl, Nat.le_refl _, rfl, Nat.le_succ _⟩
      · cases h
  rw [if_neg h6] at h
  by_cases h7 : op = 7
  · rw [if_pos h7] at h
    split at h
    · split at h
      · cases h; exact ⟨rfl, Nat.le_refl _, by simp, Nat.le_succ _⟩
      · cases h
    · cases h
  rw [if_neg h7] at h
  by_cases h8 : op = 8
  · rw [if_pos h8] at h
    split at h
    · split at h
      · rename_i hc; cases h; refine ⟨rfl, Nat.le_refl _, ?_, Nat.le_succ _⟩; obtain ⟨⟨a1, a2, a3⟩, b1, b2, b3⟩ := hc; simp; omega
      · cases h
    · cases h
  rw [if_neg h8] at h
  by_cases h31 : op = 31
  · rw [if_pos h31] at h
    obtain ⟨a, b, c, d⟩ := lay_keeps h; exact ⟨a, Nat.le_trans b (by simp), c, d⟩
  rw [if_neg h31] at h
  by_cases h32 : op = 32
  · rw [if_pos h32] at h
    exact lay_keeps h
  rw [if_neg h32] at h
  split at h
  · cases h
  · cases h; exact ⟨rfl, Nat.le_refl _, rfl, by simp⟩
theorem exec_keeps {s s' : SSt} {op k : Int} (ht : 0 ≤ s.top) (h : s.exec op k = some s') : Keeps s s' := by
  unfold SSt.exec at h
  split at h
  · exact reckon_keeps h
  · split at h
    · exact lead_keeps ht h
    · exact carry_keeps h
end Go.Proofs.Ytgkdphnhfjjepaa

/- The program's try: an instruction is done, or not. -/
namespace Go.Proofs.Ytgkdphnhfjjepaa
open Go.RowKit Go.Waf
set_option maxRecDepth 100000
set_option linter.unusedVariables false
set_option linter.unusedSimpArgs false

section
variable {w : World} {B q : Nat} {F : Nat → Prop} {cv mv iv sv kv ov : Value} {s : SSt}
theorem FuP.other {W w6 : World} {s' : SSt} {r : Nat} (h : SM true w B q F cv mv iv sv kv ov s) (hf : FuP W B q F cv mv iv s' w6) (hm : Mv w F F W) (hrw : w.heap.size ≤ r) (hrW : r < W.heap.size) (e1 : s'.code = s.code) (e2 : s'.inp.length ≤ s.inp.length) (u : Value) : FuP w B q F cv mv iv s' (w6.setCell ⟨r, 0, none⟩ u) := by
  obtain ⟨F', iv', sv', kv', ov', h1, h2, h3⟩ := hf
  have hF : ∀ k, F' k → ¬ k = r := fun k hk e => by
    subst e
    rcases h3.new k hk with hk | hk
    · exact not_F h hrw hk
    · omega
  refine ⟨F', iv', sv', kv', ov', h1.keep (fr_set w6 r 0 u) hF (fun k hk h0 e => ?_) (fun k hk h0 e => ?_), h2, ⟨((hm.trans h3).fr).setCell (p := ⟨r, 0, none⟩) (.inl hrw) u, (hm.trans h3).new⟩⟩
  · have := rd_lt h.code (by decide) (by rw [← e1]; exact h0) hk
    omega
  · have := rd_lt h.inp (by decide) (by omega) (by rw [← h2]; exact hk)
    omega
def TryP (w : World) (B q : Nat) (F : Nat → Prop) (cv mv iv kv ov : Value) (s : SSt) (e : Ending) (w' : World) : Prop :=
  (∃ s', s.try1 = some s' ∧ e = .returned (.bool true) ∧ FuP w B q F cv mv iv s' w' ∧ Keeps s s') ∨ (s.try1 = none ∧ e = .returned (.bool false) ∧ Rest w B q F mv kv ov s w')
set_option maxHeartbeats 6400000 in
theorem try_in (h : SM true w B q F cv mv iv sv kv ov s) (hol : s.out.length ≤ 1000000) (hp0 : 0 ≤ s.pc) (hp1 : s.pc < s.code.length) :
    Calls Try.prog 41 #[.pointer (some ⟨q, 0, none⟩)] w (TryP w B q F cv mv iv kv ov s) := by
  have hmf : ∀ (fn : Fn) (first cap : Array Value) (w : World), (Instr.makeFunc fn first cap).run Try.prog w = .ok (.func fn first cap) w := fun _ _ _ _ => rfl
  obtain ⟨n, hn⟩ := Int.eq_ofNat_of_zero_le hp0
  have hnl : n < s.code.length := by omega
  obtain ⟨hcl0, a, c, rfl, hnc, hc63, _, hc4⟩ := id h.code
  unfold maxLen at hc63
  obtain ⟨cb, co, rfl, hcc⟩ := hc4 (by omega)
  obtain ⟨g1, g2⟩ := codeCells_get s.code n hnl
  have hat : s.at' = s.code.getD n (0, 0) := by unfold SSt.at'; rw [hn]; rfl
  rw [← hat] at g1 g2
  have hmem : s.at' ∈ s.code := by
    rw [hat, List.getD_eq_getElem?_getD, List.getElem?_eq_getElem hnl]; simp
  have hfit := h.fit.code _ hmem
  obtain ⟨⟨op, k⟩, hopk⟩ : ∃ c : Int × Int, c = s.at' := ⟨_, rfl⟩
  rw [← hopk] at g1 g2 hfit
  have cx1 : w.cell? ⟨cb, co + n * 2, none⟩ = some (.int .i64 op) := by rw [Nat.mul_comm n 2]; exact hcc _ _ g1
  have cx2 : w.cell? ⟨cb, co + n * 2 + 1, none⟩ = some (.int .i32 k) := by rw [Nat.mul_comm n 2, Nat.add_assoc]; exact hcc _ _ g2
  have htry : s.try1 = if goodC (op, k) then s.next.exec op k else none := by
    unfold SSt.try1; rw [if_pos ⟨hp0, hp1⟩, ← hopk]
  have HTR := Lib.hid htry
  have HK := Lib.hid hfit.2.2
  have H := Lib.hid h
  have HOL := Lib.hid (show s.next.out.length ≤ 1000000 from hol)
  have HT := Lib.hid (show 0 ≤ s.next.top from h.fit.t0)
  have HPC := Lib.hid (show 0 ≤ s.next.pc from by show 0 ≤ s.pc + 1; omega)
  have hcl := h.fit.cl
  have HPN := Lib.hid hn
  have c0 := h.p0
  have c7 := h.p7
  have hql := h.lt
  rw [hn] at c7
  obtain ⟨N, hN⟩ : ∃ N, N = s.code.length := ⟨_, rfl⟩
  rw [← hN] at c0 hnl hnc hcl
  have HN := Lib.hid hN
  have q1 : (0 : Int) ≤ (n : Int) := by omega
  have q2 : (n : Int) < (N : Int) := by omega
  have hcbl := World.block_lt_of_cell? w _ cx1
  clear h hN hn hat hmem hfit hopk htry hcc g1 g2 hp0 hp1 hcl0 hc4 hol
  go_enter_defers Try.func41, Try.ntmps41
  go_wp2_with fail
  obtain ⟨W1, hW1⟩ : ∃ W1 : World, W1 = w.alloc (.cells #[.bool false] 4) := ⟨_, rfl⟩
  have d0 : W1.cell? ⟨q, 0, none⟩ = some (.slice (some ⟨cb, co, none⟩) N c) := by rw [hW1]; exact alloc_keep c0
  have d7 : W1.cell? ⟨q, 7, none⟩ = some (.int .i64 n) := by rw [hW1]; exact alloc_keep c7
  have dx1 : W1.cell? ⟨cb, co + n * 2, none⟩ = some (.int .i64 op) := by rw [hW1]; exact alloc_keep cx1
  have dx2 : W1.cell? ⟨cb, co + n * 2 + 1, none⟩ = some (.int .i32 k) := by rw [hW1]; exact alloc_keep cx2
  have hM1 : SM true W1.drew B q F (.slice (some ⟨cb, co, none⟩) N c) mv iv sv kv ov s := by rw [hW1, HN.out]; exact (H.out.alloc _).drew
  have hm1 : Mv w F F W1.drew := by rw [hW1]; exact ((Mv.refl w F).alloc _).drewN 1
  have hc1 : W1.drew.heap[w.heap.size]? = some (.cells #[.bool false] 4 (0, 0)) := by rw [hW1]; exact heap_alloc_new w _
  rw [← hW1]
  have HM1 := Lib.hid hM1
  have Hm1 := Lib.hid hm1
  have HC1 := Lib.hid hc1
  clear hW1 hM1 hm1 hc1 c0 c7 cx1 cx2
  refine wp_region_still_tail 17 (by kernel_rfl) (by kernel_rfl) ?_
  simp only [List.take_succ_cons, List.take_zero, List.drop_succ_cons, List.drop_zero]
  repeat still_step
  refine wpStill_nil ?_
  go_wp2_with fail
  refine (must_ok _).mono ?_; rintro e w2 ⟨rfl, hw2⟩
  have e0 : w2.cell? ⟨q, 0, none⟩ = some (.slice (some ⟨cb, co, none⟩) N c) := by rw [hw2]; exact d0
  have e7 : w2.cell? ⟨q, 7, none⟩ = some (.int .i64 n) := by rw [hw2]; exact d7
  have ex1 : w2.cell? ⟨cb, co + n * 2, none⟩ = some (.int .i64 op) := by rw [hw2]; exact dx1
  have ex2 : w2.cell? ⟨cb, co + n * 2 + 1, none⟩ = some (.int .i32 k) := by rw [hw2]; exact dx2
  have HM2 := Lib.hid (show SM true w2 B q F (.slice (some ⟨cb, co, none⟩) N c) mv iv sv kv ov s from by rw [hw2]; exact HM1.out)
  have Hm2 := Lib.hid (show Mv w F F w2 from by rw [hw2]; exact Hm1.out)
  have HC2 := Lib.hid (show w2.heap[w.heap.size]? = some (.cells #[.bool false] 4 (0, 0)) from by rw [hw2]; exact HC1.out)
  have l2 : q < w2.heap.size := HM2.out.lt
  have l2c := World.block_lt_of_cell? w2 _ ex1
  clear hw2 d0 d7 dx1 dx2
  go_wp2_with fail
  go_region_held3 (fun W => W.cell? ⟨q, 0, none⟩ = some (.slice (some ⟨cb, co, none⟩) N c) ∧ W.cell? ⟨q, 7, none⟩ = some (.int .i64 n) ∧ W.cell? ⟨cb, co + n * 2, none⟩ = some (.int .i64 op) ∧ W.cell? ⟨cb, co + n * 2 + 1, none⟩ = some (.int .i32 k)) (first | go_keep) (fail)
  obtain ⟨W3, hW3⟩ : ∃ W3 : World, W3 = (w2.alloc (codeBox op k)).drew := ⟨_, rfl⟩
  have hM3 : SM true W3 B q F (.slice (some ⟨cb, co, none⟩) s.code.length c) mv iv sv kv ov s := by rw [hW3, ← HN.out]; exact (HM2.out.alloc _).drew
  have hm3 : Mv w F F W3 := by rw [hW3]; exact (Hm2.out.alloc _).drewN 1
  have hc3 : W3.heap[w.heap.size]? = some (.cells #[.bool false] 4 (0, 0)) := by rw [hW3]; exact blk_alloc HC2.out _
  have b1 : W3.cell? ⟨w2.heap.size, 0, none⟩ = some (.int .i64 op) := by rw [hW3]; exact World.cell?_alloc_new w2 _ _ _
  have b2 : W3.cell? ⟨w2.heap.size, 1, none⟩ = some (.int .i32 k) := by rw [hW3]; exact World.cell?_alloc_new w2 _ _ _
  unfold codeBox at hW3
  rw [← hW3]
  clear hW3 e0 e7 ex1 ex2
  have R := Lib.hid (right_any op k W3)
  have hg : rightC op k = goodC (op, k) := rfl
  rw [hg] at R
  have hgood : goodC (op, k) = true → 0 ≤ op ∧ op < 34 := fun h => by
    unfold goodC at h
    simp only [Bool.and_eq_true, decide_eq_true_eq] at h
    exact ⟨h.1.1, h.1.2⟩
  generalize goodC (op, k) = G at R HTR hgood
  clear hg
  go_wp2_with fail
  refine R.out.mono ?_
  rintro e w4 ⟨rfl, hb4⟩
  have hM4 := hM3.below hb4
  have hm4 := hm3.below hb4
  have hc4 : w4.heap[w.heap.size]? = some (.cells #[.bool false] 4 (0, 0)) := by rw [hb4.block _ (Array.getElem?_eq_some_iff.1 hc3).1]; exact hc3
  have b3 : w4.cell? ⟨w2.heap.size, 0, none⟩ = some (.int .i64 op) := cell_below hb4 (Nat.le_refl _) b1
  have b4 : w4.cell? ⟨w2.heap.size, 1, none⟩ = some (.int .i32 k) := cell_below hb4 (Nat.le_refl _) b2
  clear hb4 hM3 hm3 hc3 b1 b2
  cases G
  · have hrest := (hM4.rest.pre hm4.fr).caught H.out (r := w.heap.size) (Nat.le_refl _)
    obtain ⟨⟨v6, r1⟩, r2, r3⟩ := res_cell ⟨_, hc4⟩
    have HM4 := Lib.hid hM4
    have HTRY := Lib.hid (show s.try1 = none from by rw [HTR.out]; rfl)
    clear hM4 hm4 hc4 hgood
    go_wp2_with fail
    refine (must_no _).mono ?_; rintro e w5 ⟨rfl, hw5⟩
    rw [← hw5] at r1 r2 r3 hrest
    clear hw5
    refine leaves_cons (f := 48) (args := #[.pointer (some ⟨w.heap.size, 0, none⟩)]) (by simp) (by simp [go_sem]) ?_
    refine (try1_panic w.heap.size v6 _ r1 r2).mono ?_
    rintro e u' w7 ⟨rfl, rfl, hw7⟩
    rw [← hw7] at r3 hrest
    have HR7 := Lib.hid hrest
    clear hw7 hrest
    simp [Leaves, settle, results, Try.results41, go_sem, r3]
    exact .inr ⟨HTRY.out, rfl, HR7.out⟩
  obtain ⟨hop0, hop1⟩ := hgood rfl
  have HTRY := Lib.hid (show s.try1 = s.next.exec op k from by rw [HTR.out]; rfl)
  have HM4 := Lib.hid hM4
  have Hm4 := Lib.hid hm4
  have HC4 := Lib.hid hc4
  clear hM4 hm4 hc4 hgood
  go_wp2_with fail
  refine (must_ok _).mono ?_; rintro e w5 ⟨rfl, hw5⟩
  have hM5 : SM true w5 B q F (.slice (some ⟨cb, co, none⟩) s.code.length c) mv iv sv kv ov s := by rw [hw5]; exact HM4.out
  have hm5 : Mv w F F w5 := by rw [hw5]; exact Hm4.out
  have hc5 : w5.heap[w.heap.size]? = some (.cells #[.bool false] 4 (0, 0)) := by rw [hw5]; exact HC4.out
  have b5 : w5.cell? ⟨w2.heap.size, 0, none⟩ = some (.int .i64 op) := by rw [hw5]; exact b3
  have b6 : w5.cell? ⟨w2.heap.size, 1, none⟩ = some (.int .i32 k) := by rw [hw5]; exact b4
  clear hw5 b3 b4
  have c7 := hM5.p7
  have f7 := hM5.frozen 7
  rw [HPN.out] at c7
  have hbq : w2.heap.size ≠ q := by omega
  have hp9 : s.pc + 1 ≤ 2147483648 := by rw [HPN.out]; omega
  have hp8 : -2147483648 ≤ s.pc + 1 := by rw [HPN.out]; omega
  have h5 := hM5.putPc (s.pc + 1) hp8 hp9
  have hm6 := hm5.set hM5.fq 7 (.int .i64 (s.pc + 1))
  have hc6 : (w5.setCell ⟨q, 7, none⟩ (.int .i64 (s.pc + 1))).heap[w.heap.size]? = some (.cells #[.bool false] 4 (0, 0)) := blk_set_other hc5 _ _ (by show w.heap.size ≠ q; omega)
  rw [HPN.out] at h5 hm6 hc6
  have hl5 := World.block_lt_of_cell? w5 _ b5
  have b7 : (w5.setCell ⟨q, 7, none⟩ (.int .i64 ((n : Int) + 1))).cell? ⟨w2.heap.size, 0, none⟩ = some (.int .i64 op) := far_q (Ne.symm hbq) b5
  have b8 : (w5.setCell ⟨q, 7, none⟩ (.int .i64 ((n : Int) + 1))).cell? ⟨w2.heap.size, 1, none⟩ = some (.int .i32 k) := far_q (Ne.symm hbq) b6
  have hl6 := World.block_lt_of_cell? _ _ b7
  have hr6 : w.heap.size < (w5.setCell ⟨q, 7, none⟩ (.int .i64 ((n : Int) + 1))).heap.size := (Array.getElem?_eq_some_iff.1 hc6).1
  obtain ⟨W5, hW5⟩ : ∃ W5 : World, W5 = w5.setCell ⟨q, 7, none⟩ (.int .i64 ((n : Int) + 1)) := ⟨_, rfl⟩
  rw [← hW5] at h5 hm6 hc6 b7 b8 hr6 hl6
  have H5 := Lib.hid (show SM true W5 B q F (.slice (some ⟨cb, co, none⟩) s.code.length c) mv iv sv kv ov s.next from by unfold SSt.next; rw [HPN.out]; exact h5)
  have HM5 := Lib.hid hm6
  have HC5 := Lib.hid hc6
  have HL5 := Lib.hid hr6
  have HW5 := Lib.hid hW5
  clear hW5
  have hnp : (n : Int) + 1 ≤ 9223372036854775807 := by omega
  clear hM5 hm5 hc5 h5 hm6 hc6 hp8 hp9 hr6
  go_upto_region 7 with (fail)
  have hw5' := HW5.out
  rw [← hw5']
  clear hw5'
  clear HW5
  by_cases hA : 9 ≤ op ∧ op ≤ 24
  · as_aux_lemma =>
    obtain ⟨o1, o2⟩ := hA
    have HXE := Lib.hid (show s.next.exec op k = s.next.reckon op from by unfold SSt.exec; rw [if_pos ⟨o1, o2⟩])
    have X := Lib.hid (reckon_any H5.out o1 o2)
    clear hop0 hop1
    go_wp2_with fail
    refine X.out.mono ?_
    rintro e w6 (⟨s6, hs6, rfl, hO6⟩ | ⟨hs6, rfl, hP6⟩)
    · have hF6 : FuP W5 B q F (.slice (some ⟨cb, co, none⟩) s.code.length c) mv iv s6 w6 := hO6.fu W5 (Mv.refl W5 F)
      clear hO6
      have hfr6 : Fr F W5 w6 := by obtain ⟨F', a, b, c, d, _, _, hm⟩ := hF6; exact hm.fr
      obtain ⟨b6, hb6⟩ := res_cell_of hfr6 (not_F H.out (Nat.le_refl _)) HC5.out
      have r1 : w6.cell? ⟨w.heap.size, 0, none⟩ = some (.bool b6) := by rw [cell_of_row w6 _ 0 _ _ _ hb6]; rfl
      have r2 := frozen_of_row w6 w.heap.size 0 _ _ hb6
      have hk6 := exec_keeps (s := s.next) HT.out (HXE.out.trans hs6)
      have HR := Lib.hid (hF6.other H.out HM5.out (Nat.le_refl _) HL5.out hk6.1 hk6.2.1 (.bool true))
      have HKP := Lib.hid hk6
      have HS6 := Lib.hid (show s.try1 = some s6 from by rw [HTRY.out]; exact HXE.out.trans hs6)
      have r3 : (w6.setCell ⟨w.heap.size, 0, none⟩ (.bool true)).cell? ⟨w.heap.size, 0, none⟩ = some (.bool true) := by
        rw [cell_of_row _ _ 0 _ _ _ (heap_set_cells (l := [.bool b6]) hb6 (.bool true))]; rfl
      clear hfr6 hb6 hk6 hF6 hs6
      go_wp2_with fail
      refine leaves_cons (f := 48) (args := #[.pointer (some ⟨w.heap.size, 0, none⟩)]) (by simp) (by simp [go_sem]) ?_
      refine (try1_idle _ _).mono ?_
      rintro e u' w7 ⟨rfl, rfl, hw7⟩
      rw [← hw7] at r3
      have HR7 := Lib.hid (show FuP w B q F (.slice (some ⟨cb, co, none⟩) s.code.length c) mv iv s6 w7 from by rw [hw7]; exact HR.out)
      clear hw7
      simp [Leaves, settle, results, Try.results41, go_sem, r3]
      exact .inl ⟨s6, HS6.out, rfl, HR7.out, HKP.out⟩
    · skip
      have hfr6 := hP6.fr
      obtain ⟨⟨v6, r1⟩, r2, r3⟩ := res_cell (res_cell_of hfr6 (not_F H.out (Nat.le_refl _)) HC5.out)
      have hrest := ((hP6.rest (s := s) rfl rfl rfl).pre HM5.out.fr).caught H.out (r := w.heap.size) (Nat.le_refl _)
      have HS6 := Lib.hid (show s.try1 = none from by rw [HTRY.out]; exact HXE.out.trans hs6)
      clear hfr6 hP6 hs6
      refine leaves_cons (f := 48) (args := #[.pointer (some ⟨w.heap.size, 0, none⟩)]) (by simp) (by simp [go_sem]) ?_
      refine (try1_panic w.heap.size v6 _ r1 r2).mono ?_
      rintro e u' w7 ⟨rfl, rfl, hw7⟩
      rw [← hw7] at r3 hrest
      have HR7 := Lib.hid hrest
      clear hw7 hrest
      simp [Leaves, settle, results, Try.results41, go_sem, r3]
      exact .inr ⟨HS6.out, rfl, HR7.out⟩
  by_cases hB : 25 ≤ op ∧ op ≤ 30
  · as_aux_lemma =>
    obtain ⟨o1, o2⟩ := hB
    have HXE := Lib.hid (show s.next.exec op k = s.next.lead op k from by unfold SSt.exec; rw [if_neg hA, if_pos (.inl ⟨o1, o2⟩)])
    have X := Lib.hid (lead_any H5.out op k HK.out HPC.out (.inl ⟨o1, o2⟩))
    have o3 : (9 : Int) ≤ op := by omega
    have o4 : decide (op ≤ 24) = false := by simp; omega
    clear hop0 hop1 hA
    go_wp2_with fail
    refine X.out.mono ?_
    rintro e w6 (⟨s6, hs6, rfl, hF6⟩ | ⟨hs6, rfl, hP6⟩)
    · skip
      have hfr6 : Fr F W5 w6 := by obtain ⟨F', a, b, c, d, _, _, hm⟩ := hF6; exact hm.fr
      obtain ⟨b6, hb6⟩ := res_cell_of hfr6 (not_F H.out (Nat.le_refl _)) HC5.out
      have r1 : w6.cell? ⟨w.heap.size, 0, none⟩ = some (.bool b6) := by rw [cell_of_row w6 _ 0 _ _ _ hb6]; rfl
      have r2 := frozen_of_row w6 w.heap.size 0 _ _ hb6
      have hk6 := exec_keeps (s := s.next) HT.out (HXE.out.trans hs6)
      have HR := Lib.hid (hF6.other H.out HM5.out (Nat.le_refl _) HL5.out hk6.1 hk6.2.1 (.bool true))
      have HKP := Lib.hid hk6
      have HS6 := Lib.hid (show s.try1 = some s6 from by rw [HTRY.out]; exact HXE.out.trans hs6)
      have r3 : (w6.setCell ⟨w.heap.size, 0, none⟩ (.bool true)).cell? ⟨w.heap.size, 0, none⟩ = some (.bool true) := by
        rw [cell_of_row _ _ 0 _ _ _ (heap_set_cells (l := [.bool b6]) hb6 (.bool true))]; rfl
      clear hfr6 hb6 hk6 hF6 hs6
      go_wp2_with fail
      refine leaves_cons (f := 48) (args := #[.pointer (some ⟨w.heap.size, 0, none⟩)]) (by simp) (by simp [go_sem]) ?_
      refine (try1_idle _ _).mono ?_
      rintro e u' w7 ⟨rfl, rfl, hw7⟩
      rw [← hw7] at r3
      have HR7 := Lib.hid (show FuP w B q F (.slice (some ⟨cb, co, none⟩) s.code.length c) mv iv s6 w7 from by rw [hw7]; exact HR.out)
      clear hw7
      simp [Leaves, settle, results, Try.results41, go_sem, r3]
      exact .inl ⟨s6, HS6.out, rfl, HR7.out, HKP.out⟩
    · skip
      have hfr6 := hP6.fr
      obtain ⟨⟨v6, r1⟩, r2, r3⟩ := res_cell (res_cell_of hfr6 (not_F H.out (Nat.le_refl _)) HC5.out)
      have hrest := ((hP6.rest (s := s) rfl rfl rfl).pre HM5.out.fr).caught H.out (r := w.heap.size) (Nat.le_refl _)
      have HS6 := Lib.hid (show s.try1 = none from by rw [HTRY.out]; exact HXE.out.trans hs6)
      clear hfr6 hP6 hs6
      refine leaves_cons (f := 48) (args := #[.pointer (some ⟨w.heap.size, 0, none⟩)]) (by simp) (by simp [go_sem]) ?_
      refine (try1_panic w.heap.size v6 _ r1 r2).mono ?_
      rintro e u' w7 ⟨rfl, rfl, hw7⟩
      rw [← hw7] at r3 hrest
      have HR7 := Lib.hid hrest
      clear hw7 hrest
      simp [Leaves, settle, results, Try.results41, go_sem, r3]
      exact .inr ⟨HS6.out, rfl, HR7.out⟩
  by_cases hC : op = 0
  · as_aux_lemma =>
    subst hC
    have HXE := Lib.hid (show s.next.exec 0 k = s.next.lead 0 k from by unfold SSt.exec; rw [if_neg hA, if_pos (.inr rfl)])
    have X := Lib.hid (lead_any H5.out 0 k HK.out HPC.out (.inr rfl))
    clear hop0 hop1 hA hB
    go_wp2_with fail
    refine X.out.mono ?_
    rintro e w6 (⟨s6, hs6, rfl, hF6⟩ | ⟨hs6, rfl, hP6⟩)
    · skip
      have hfr6 : Fr F W5 w6 := by obtain ⟨F', a, b, c, d, _, _, hm⟩ := hF6; exact hm.fr
      obtain ⟨b6, hb6⟩ := res_cell_of hfr6 (not_F H.out (Nat.le_refl _)) HC5.out
      have r1 : w6.cell? ⟨w.heap.size, 0, none⟩ = some (.bool b6) := by rw [cell_of_row w6 _ 0 _ _ _ hb6]; rfl
      have r2 := frozen_of_row w6 w.heap.size 0 _ _ hb6
      have hk6 := exec_keeps (s := s.next) HT.out (HXE.out.trans hs6)
      have HR := Lib.hid (hF6.other H.out HM5.out (Nat.le_refl _) HL5.out hk6.1 hk6.2.1 (.bool true))
      have HKP := Lib.hid hk6
      have HS6 := Lib.hid (show s.try1 = some s6 from by rw [HTRY.out]; exact HXE.out.trans hs6)
      have r3 : (w6.setCell ⟨w.heap.size, 0, none⟩ (.bool true)).cell? ⟨w.heap.size, 0, none⟩ = some (.bool true) := by
        rw [cell_of_row _ _ 0 _ _ _ (heap_set_cells (l := [.bool b6]) hb6 (.bool true))]; rfl
      clear hfr6 hb6 hk6 hF6 hs6
      go_wp2_with fail
      refine leaves_cons (f := 48) (args := #[.pointer (some ⟨w.heap.size, 0, none⟩)]) (by simp) (by simp [go_sem]) ?_
      refine (try1_idle _ _).mono ?_
      rintro e u' w7 ⟨rfl, rfl, hw7⟩
      rw [← hw7] at r3
      have HR7 := Lib.hid (show FuP w B q F (.slice (some ⟨cb, co, none⟩) s.code.length c) mv iv s6 w7 from by rw [hw7]; exact HR.out)
      clear hw7
      simp [Leaves, settle, results, Try.results41, go_sem, r3]
      exact .inl ⟨s6, HS6.out, rfl, HR7.out, HKP.out⟩
    · skip
      have hfr6 := hP6.fr
      obtain ⟨⟨v6, r1⟩, r2, r3⟩ := res_cell (res_cell_of hfr6 (not_F H.out (Nat.le_refl _)) HC5.out)
      have hrest := ((hP6.rest (s := s) rfl rfl rfl).pre HM5.out.fr).caught H.out (r := w.heap.size) (Nat.le_refl _)
      have HS6 := Lib.hid (show s.try1 = none from by rw [HTRY.out]; exact HXE.out.trans hs6)
      clear hfr6 hP6 hs6
      refine leaves_cons (f := 48) (args := #[.pointer (some ⟨w.heap.size, 0, none⟩)]) (by simp) (by simp [go_sem]) ?_
      refine (try1_panic w.heap.size v6 _ r1 r2).mono ?_
      rintro e u' w7 ⟨rfl, rfl, hw7⟩
      rw [← hw7] at r3 hrest
      have HR7 := Lib.hid hrest
      clear hw7 hrest
      simp [Leaves, settle, results, Try.results41, go_sem, r3]
      exact .inr ⟨HS6.out, rfl, HR7.out⟩
  by_cases hD : op ≤ 8
  · as_aux_lemma =>
    have HXE := Lib.hid (show s.next.exec op k = s.next.carry op k from by unfold SSt.exec; rw [if_neg hA, if_neg (by omega)])
    have X := Lib.hid (carry_any H5.out op k HK.out HOL.out (by unfold isCarry; omega))
    have o3 : decide (9 ≤ op) = false := by simp; omega
    have o4 : decide (25 ≤ op) = false := by simp; omega
    have o5 : (op == 0) = false := by simp; omega
    clear hop0 hop1 hA hB hC hD
    go_wp2_with fail
    refine X.out.mono ?_
    rintro e w6 (⟨s6, hs6, rfl, hF6⟩ | ⟨hs6, rfl, hP6⟩)
    · skip
      have hfr6 : Fr F W5 w6 := by obtain ⟨F', a, b, c, d, _, _, hm⟩ := hF6; exact hm.fr
      obtain ⟨b6, hb6⟩ := res_cell_of hfr6 (not_F H.out (Nat.le_refl _)) HC5.out
      have r1 : w6.cell? ⟨w.heap.size, 0, none⟩ = some (.bool b6) := by rw [cell_of_row w6 _ 0 _ _ _ hb6]; rfl
      have r2 := frozen_of_row w6 w.heap.size 0 _ _ hb6
      have hk6 := exec_keeps (s := s.next) HT.out (HXE.out.trans hs6)
      have HR := Lib.hid (hF6.other H.out HM5.out (Nat.le_refl _) HL5.out hk6.1 hk6.2.1 (.bool true))
      have HKP := Lib.hid hk6
      have HS6 := Lib.hid (show s.try1 = some s6 from by rw [HTRY.out]; exact HXE.out.trans hs6)
      have r3 : (w6.setCell ⟨w.heap.size, 0, none⟩ (.bool true)).cell? ⟨w.heap.size, 0, none⟩ = some (.bool true) := by
        rw [cell_of_row _ _ 0 _ _ _ (heap_set_cells (l := [.bool b6]) hb6 (.bool true))]; rfl
      clear hfr6 hb6 hk6 hF6 hs6
      go_wp2_with fail
      refine leaves_cons (f := 48) (args := #[.pointer (some ⟨w.heap.size, 0, none⟩)]) (by simp) (by simp [go_sem]) ?_
      refine (try1_idle _ _).mono ?_
      rintro e u' w7 ⟨rfl, rfl, hw7⟩
      rw [← hw7] at r3
      have HR7 := Lib.hid (show FuP w B q F (.slice (some ⟨cb, co, none⟩) s.code.length c) mv iv s6 w7 from by rw [hw7]; exact HR.out)
      clear hw7
      simp [Leaves, settle, results, Try.results41, go_sem, r3]
      exact .inl ⟨s6, HS6.out, rfl, HR7.out, HKP.out⟩
    · skip
      have hfr6 := hP6.fr
      obtain ⟨⟨v6, r1⟩, r2, r3⟩ := res_cell (res_cell_of hfr6 (not_F H.out (Nat.le_refl _)) HC5.out)
      have hrest := ((hP6.rest (s := s) rfl rfl rfl).pre HM5.out.fr).caught H.out (r := w.heap.size) (Nat.le_refl _)
      have HS6 := Lib.hid (show s.try1 = none from by rw [HTRY.out]; exact HXE.out.trans hs6)
      clear hfr6 hP6 hs6
      refine leaves_cons (f := 48) (args := #[.pointer (some ⟨w.heap.size, 0, none⟩)]) (by simp) (by simp [go_sem]) ?_
      refine (try1_panic w.heap.size v6 _ r1 r2).mono ?_
      rintro e u' w7 ⟨rfl, rfl, hw7⟩
      rw [← hw7] at r3 hrest
      have HR7 := Lib.hid hrest
      clear hw7 hrest
      simp [Leaves, settle, results, Try.results41, go_sem, r3]
      exact .inr ⟨HS6.out, rfl, HR7.out⟩
  · as_aux_lemma =>
    have HXE := Lib.hid (show s.next.exec op k = s.next.carry op k from by unfold SSt.exec; rw [if_neg hA, if_neg (by omega)])
    have X := Lib.hid (carry_any H5.out op k HK.out HOL.out (by unfold isCarry; omega))
    have o3 : (9 : Int) ≤ op := by omega
    have o4 : (25 : Int) ≤ op := by omega
    have o5 : (op == 0) = false := by simp; omega
    have o6 : decide (op ≤ 24) = false := by simp; omega
    have o7 : decide (op ≤ 30) = false := by simp; omega
    clear hop0 hop1 hA hB hC hD
    go_wp2_with fail
    refine X.out.mono ?_
    rintro e w6 (⟨s6, hs6, rfl, hF6⟩ | ⟨hs6, rfl, hP6⟩)
    · skip
      have hfr6 : Fr F W5 w6 := by obtain ⟨F', a, b, c, d, _, _, hm⟩ := hF6; exact hm.fr
      obtain ⟨b6, hb6⟩ := res_cell_of hfr6 (not_F H.out (Nat.le_refl _)) HC5.out
      have r1 : w6.cell? ⟨w.heap.size, 0, none⟩ = some (.bool b6) := by rw [cell_of_row w6 _ 0 _ _ _ hb6]; rfl
      have r2 := frozen_of_row w6 w.heap.size 0 _ _ hb6
      have hk6 := exec_keeps (s := s.next) HT.out (HXE.out.trans hs6)
      have HR := Lib.hid (hF6.other H.out HM5.out (Nat.le_refl _) HL5.out hk6.1 hk6.2.1 (.bool true))
      have HKP := Lib.hid hk6
      have HS6 := Lib.hid (show s.try1 = some s6 from by rw [HTRY.out]; exact HXE.out.trans hs6)
      have r3 : (w6.setCell ⟨w.heap.size, 0, none⟩ (.bool true)).cell? ⟨w.heap.size, 0, none⟩ = some (.bool true) := by
        rw [cell_of_row _ _ 0 _ _ _ (heap_set_cells (l := [.bool b6]) hb6 (.bool true))]; rfl
      clear hfr6 hb6 hk6 hF6 hs6
      go_wp2_with fail
      refine leaves_cons (f := 48) (args := #[.pointer (some ⟨w.heap.size, 0, none⟩)]) (by simp) (by simp [go_sem]) ?_
      refine (try1_idle _ _).mono ?_
      rintro e u' w7 ⟨rfl, rfl, hw7⟩
      rw [← hw7] at r3
      have HR7 := Lib.hid (show FuP w B q F (.slice (some ⟨cb, co, none⟩) s.code.length c) mv iv s6 w7 from by rw [hw7]; exact HR.out)
      clear hw7
      simp [Leaves, settle, results, Try.results41, go_sem, r3]
      exact .inl ⟨s6, HS6.out, rfl, HR7.out, HKP.out⟩
    · skip
      have hfr6 := hP6.fr
      obtain ⟨⟨v6, r1⟩, r2, r3⟩ := res_cell (res_cell_of hfr6 (not_F H.out (Nat.le_refl _)) HC5.out)
      have hrest := ((hP6.rest (s := s) rfl rfl rfl).pre HM5.out.fr).caught H.out (r := w.heap.size) (Nat.le_refl _)
      have HS6 := Lib.hid (show s.try1 = none from by rw [HTRY.out]; exact HXE.out.trans hs6)
      clear hfr6 hP6 hs6
      refine leaves_cons (f := 48) (args := #[.pointer (some ⟨w.heap.size, 0, none⟩)]) (by simp) (by simp [go_sem]) ?_
      refine (try1_panic w.heap.size v6 _ r1 r2).mono ?_
      rintro e u' w7 ⟨rfl, rfl, hw7⟩
      rw [← hw7] at r3 hrest
      have HR7 := Lib.hid hrest
      clear hw7 hrest
      simp [Leaves, settle, results, Try.results41, go_sem, r3]
      exact .inr ⟨HS6.out, rfl, HR7.out⟩
theorem keeps_next {s s' : SSt} (h : Keeps s.next s') : Keeps s s' := h
theorem try_any (h : SM true w B q F cv mv iv sv kv ov s) (hol : s.out.length ≤ 1000000) :
    Calls Try.prog 41 #[.pointer (some ⟨q, 0, none⟩)] w (TryP w B q F cv mv iv kv ov s) := by
  by_cases hp : 0 ≤ s.pc ∧ s.pc < s.code.length
  · exact try_in h hol hp.1 hp.2
  · exact (try_out h hp).mono fun e w' ⟨h1, h2⟩ => .inr ⟨by unfold SSt.try1; rw [if_neg hp], h1, h2⟩
end
end Go.Proofs.Ytgkdphnhfjjepaa

/- The program's Step. -/
namespace Go.Proofs.Ytgkdphnhfjjepaa
open Go.RowKit Go.Waf
set_option maxRecDepth 100000
set_option linter.unusedVariables false

theorem cloneI_any (w : World) (v : Value) (n : Nat) (xs : List Int) (hr : Rd w 1 v n (i32s xs)) (hn : n ≤ 35184372088832) :
    Calls Try.prog 37 #[v] w (OwnRet w.heap.size 21 1 n (i32s xs) w) := by
  have hown := (World.ownsRow_made (base := w.heap.size) (e := 21) (size := 1) w #[] 0 (Nat.le_refl _) (by simp [maxLen]) rfl)
  have hr2 := hr.below (Below.alloc (Below.refl w.heap.size w) (Nat.le_refl _) (.cells #[] 21)) (Nat.le_refl _)
  have HR := Lib.hid hr2
  have qn := fun (w : World) (a : Option Addr) (n c n' c' : Nat) => Lib.run_eql_slice_nil (P := Try.prog) w _ _ a n c n' c' Try.underlying33
  clear hr2
  obtain ⟨hl, a, cap, rfl, h1, h2, h3, h4⟩ := hr
  have H4 := Lib.hid h4
  clear h4
  cases a with
  | none =>
    have : cap = 0 := h3 rfl
    obtain rfl : n = 0 := by omega
    obtain rfl : xs = [] := List.eq_nil_of_length_eq_zero (by simpa [i32s] using hl)
    subst this
    clear H4 HR hown
    go_enter Try.func37, Try.ntmps37
    go_wp2
    go_ret
    exact ⟨_, rfl, World.ownsRow_nil _ _ _ _, Below.refl _ _⟩
  | some a =>
    clear hl h3
    go_enter Try.func37, Try.ntmps37
    go_wp2_with (at_builtin; refine app_own _ elemI32 rfl _ _ rfl w.heap.size _ 0 [] rfl hown _ n (i32s xs) rfl HR.out (one_i32s _) (by simp only [maxLen]; omega) (by omega) (by simp) ?_; intro v' w1 hown1 hg1)
    go_ret
    exact ⟨v', rfl, by simpa using hown1, below_of_grown ((Below.refl _ _).alloc (Nat.le_refl _) _) (by simp) hown (Nat.le_refl _) rfl hg1⟩
def FuQ (p : Bool) (w : World) (B q : Nat) (F : Nat → Prop) (cv mv iv : Value) (s' : SSt) (w' : World) : Prop :=
  ∃ F' iv' sv' kv' ov', SM p w' B q F' cv mv iv' sv' kv' ov' s' ∧ iv'.ownBlock = iv.ownBlock ∧ Mv w F F' w'
/-- A step of a machine. -/
def StP (p : Bool) (w : World) (B q : Nat) (F : Nat → Prop) (cv mv iv : Value) (s : SSt) (e : Ending) (w' : World) : Prop :=
  e = .returned (.bool (decide (s.fin = 0))) ∧ FuQ p w B q F cv mv iv s.step w'
theorem eleven (l : List Value) (h : l.length = 11) : ∃ l0 l1 l2 l3 l4 l5 l6 l7 l8 l9 l10, l = [l0, l1, l2, l3, l4, l5, l6, l7, l8, l9, l10] := by
  match l, h with
  | [l0, l1, l2, l3, l4, l5, l6, l7, l8, l9, l10], _ => exact ⟨l0, l1, l2, l3, l4, l5, l6, l7, l8, l9, l10, rfl⟩
theorem nest13 {w8 : World} {q : Nat} {T : TypeId} {l0 l1 l2 l3 l4 l5 l6 l7 l8 l9 l10 : Value} (hb : w8.heap[q]? = some (.cells #[l0, l1, l2, l3, l4, l5, l6, l7, l8, l9, l10] T (0, 0))) (x0 x1 x2 x3 x4 x5 x6 x7 x8 x9 x10 y9 y10 : Value) :
    (((((((((((((w8.setCell ⟨q, 0, none⟩ x0).setCell ⟨q, 1, none⟩ x1).setCell ⟨q, 2, none⟩ x2).setCell ⟨q, 3, none⟩ x3).setCell ⟨q, 4, none⟩ x4).setCell ⟨q, 5, none⟩ x5).setCell ⟨q, 6, none⟩ x6).setCell ⟨q, 7, none⟩ x7).setCell ⟨q, 8, none⟩ x8).setCell ⟨q, 9, none⟩ x9).setCell ⟨q, 10, none⟩ x10).setCell ⟨q, 9, none⟩ y9).setCell ⟨q, 10, none⟩ y10).heap[q]? = some (.cells #[x0, x1, x2, x3, x4, x5, x6, x7, x8, y9, y10] T (0, 0)) ∧ Fr (fun k => k = q) w8 (((((((((((((w8.setCell ⟨q, 0, none⟩ x0).setCell ⟨q, 1, none⟩ x1).setCell ⟨q, 2, none⟩ x2).setCell ⟨q, 3, none⟩ x3).setCell ⟨q, 4, none⟩ x4).setCell ⟨q, 5, none⟩ x5).setCell ⟨q, 6, none⟩ x6).setCell ⟨q, 7, none⟩ x7).setCell ⟨q, 8, none⟩ x8).setCell ⟨q, 9, none⟩ x9).setCell ⟨q, 10, none⟩ x10).setCell ⟨q, 9, none⟩ y9).setCell ⟨q, 10, none⟩ y10) := by
  refine ⟨?_, ?_⟩
  · have b0 : w8.heap[q]? = some (.cells [l0, l1, l2, l3, l4, l5, l6, l7, l8, l9, l10].toArray T (0, 0)) := hb
    have b1 := heap_set_cells (j := 0) b0 x0
    have b2 := heap_set_cells (j := 1) b1 x1
    have b3 := heap_set_cells (j := 2) b2 x2
    have b4 := heap_set_cells (j := 3) b3 x3
    have b5 := heap_set_cells (j := 4) b4 x4
    have b6 := heap_set_cells (j := 5) b5 x5
    have b7 := heap_set_cells (j := 6) b6 x6
    have b8 := heap_set_cells (j := 7) b7 x7
    have b9 := heap_set_cells (j := 8) b8 x8
    have b10 := heap_set_cells (j := 9) b9 x9
    have b11 := heap_set_cells (j := 10) b10 x10
    have b12 := heap_set_cells (j := 9) b11 y9
    have b13 := heap_set_cells (j := 10) b12 y10
    exact b13
  · exact (((((((((((((Fr.refl (fun k => k = q) w8).setCell (p := ⟨q, 0, none⟩) (.inr rfl) x0).setCell (p := ⟨q, 1, none⟩) (.inr rfl) x1).setCell (p := ⟨q, 2, none⟩) (.inr rfl) x2).setCell (p := ⟨q, 3, none⟩) (.inr rfl) x3).setCell (p := ⟨q, 4, none⟩) (.inr rfl) x4).setCell (p := ⟨q, 5, none⟩) (.inr rfl) x5).setCell (p := ⟨q, 6, none⟩) (.inr rfl) x6).setCell (p := ⟨q, 7, none⟩) (.inr rfl) x7).setCell (p := ⟨q, 8, none⟩) (.inr rfl) x8).setCell (p := ⟨q, 9, none⟩) (.inr rfl) x9).setCell (p := ⟨q, 10, none⟩) (.inr rfl) x10).setCell (p := ⟨q, 9, none⟩) (.inr rfl) y9).setCell (p := ⟨q, 10, none⟩) (.inr rfl) y10
section
variable {w : World} {B q : Nat} {F : Nat → Prop} {cv mv iv sv kv ov : Value} {s : SSt}
theorem step_stop (hf : s.fin ≠ 0) : s.step = s := by unfold SSt.step; rw [if_neg hf]
theorem step_run (hf : s.fin = 0) : s.step = s.step1 := by unfold SSt.step; rw [if_pos hf]
theorem SM.fuq {p : Bool} (h : SM p w B q F cv mv iv sv kv ov s) {w0 : World} (hm : Mv w0 F F w) : FuQ p w0 B q F cv mv iv s w := ⟨F, iv, sv, kv, ov, h, rfl, hm⟩
theorem pstep_stop (h : SM true w B q F cv mv iv sv kv ov s) (hf : s.fin ≠ 0) :
    Calls Try.prog 26 #[.pointer (some ⟨q, 0, none⟩)] w (StP true w B q F cv mv iv s) := by
  have c9 := h.p9
  have HR := Lib.hid (show FuQ true w B q F cv mv iv s.step w from by rw [step_stop hf]; exact h.fuq (Mv.refl _ _))
  have HD := Lib.hid (show decide (s.fin = 0) = false from by simp [hf])
  have q1 : (s.fin == 0) = false := by simp [hf]
  have q2 : (s.fin != 0) = true := by simp [hf]
  clear h hf
  go_enter Try.func26, Try.ntmps26
  go_wp2_with fail
  go_ret
  exact ⟨by rw [HD.out]; rfl, HR.out⟩
set_option maxHeartbeats 6400000 in
theorem pstep_run (h : SM true w B q F cv mv iv sv kv ov s) (hol : s.out.length ≤ 1000000) (hf : s.fin = 0) :
    Calls Try.prog 26 #[.pointer (some ⟨q, 0, none⟩)] w (StP true w B q F cv mv iv s) := by
  obtain ⟨ca, cc, hcv, _⟩ := rd_shape h.code
  obtain ⟨ma, mc, hmv, _⟩ := owns_shape h.mem
  obtain ⟨ia, ic, hiv, _⟩ := rd_shape h.inp
  obtain ⟨sa, sc, hsv, _⟩ := rd_shape h.ops.rd
  obtain ⟨ka, kc, hkv, _⟩ := rd_shape h.kept.rd
  obtain ⟨oa, oc, hov, _⟩ := owns_shape h.out
  obtain ⟨n1, hn1⟩ : ∃ n, n = s.code.length := ⟨_, rfl⟩
  obtain ⟨n2, hn2⟩ : ∃ n, n = s.mem.length := ⟨_, rfl⟩
  obtain ⟨n3, hn3⟩ : ∃ n, n = s.inp.length := ⟨_, rfl⟩
  obtain ⟨n4, hn4⟩ : ∃ n, n = s.st.length := ⟨_, rfl⟩
  obtain ⟨n5, hn5⟩ : ∃ n, n = s.kept.length := ⟨_, rfl⟩
  obtain ⟨n6, hn6⟩ : ∃ n, n = s.out.length := ⟨_, rfl⟩
  rw [← hn1] at hcv
  rw [← hn2] at hmv
  rw [← hn3] at hiv
  rw [← hn4] at hsv
  rw [← hn5] at hkv
  rw [← hn6] at hov
  have N4 := Lib.hid hn4
  subst hcv hmv hiv hsv hkv hov
  clear hn1 hn2 hn3 hn4 hn5 hn6
  have HF := Lib.hid hf
  have H := Lib.hid h
  have HOL := Lib.hid hol
  have hql := h.lt
  have c0 := h.p0
  have c1 := h.p1
  have c2 := h.p2
  have c3 := h.p3
  have c4 := h.p4
  have c5 := h.p5
  have c6 := h.p6
  have c7 := h.p7
  have c8 := h.p8
  have c9 := h.p9
  rw [hf] at c9
  have c10 := h.p10
  clear h hf hol
  go_enter Try.func26, Try.ntmps26
  go_wp2_with fail
  obtain ⟨W1, hW1⟩ : ∃ W1 : World, W1 = w.alloc (.cells #[.slice ca n1 cc, .slice ma n2 mc, .slice ia n3 ic, .slice sa n4 sc, .int .i64 s.fp, .int .i64 s.top, .slice ka n5 kc, .int .i64 s.pc, .slice oa n6 oc, .int .i64 0, .int .i64 s.trap] 64) := ⟨_, rfl⟩
  have hM1 : SM true W1 B q F (.slice ca n1 cc) (.slice ma n2 mc) (.slice ia n3 ic) (.slice sa n4 sc) (.slice ka n5 kc) (.slice oa n6 oc) s := by rw [hW1]; exact H.out.alloc _
  have hm1 : Mv w F F W1 := by rw [hW1]; exact (Mv.refl w F).alloc _
  have hb1 : W1.heap[w.heap.size]? = some (.cells #[.slice ca n1 cc, .slice ma n2 mc, .slice ia n3 ic, .slice sa n4 sc, .int .i64 s.fp, .int .i64 s.top, .slice ka n5 kc, .int .i64 s.pc, .slice oa n6 oc, .int .i64 0, .int .i64 s.trap] 64 (0, 0)) := by rw [hW1]; exact heap_alloc_new w _
  rw [← hW1]
  have C := Lib.hid (cloneI_any W1 _ s.st.length s.st.reverse hM1.ops.rd (by have := H.out.fit.sl; omega))
  refine C.out.mono ?_
  rintro e w3 ⟨v, rfl, hov, hb3⟩
  clear hW1 c0 c1 c2 c3 c4 c5 c6 c7 c8 c9 c10
  obtain ⟨va, vc, hv, _⟩ := owns_shape hov
  obtain ⟨m4, hm4⟩ : ∃ n, n = s.st.length := ⟨_, rfl⟩
  rw [← hm4] at hv
  subst hv
  have hM3 := hM1.below hb3
  have hm3 := hm1.below hb3
  have hb3' := hb3.block _ (Array.getElem?_eq_some_iff.1 hb1).1
  rw [hb1] at hb3'
  have hl1 : w.heap.size < W1.heap.size := (Array.getElem?_eq_some_iff.1 hb1).1
  have hs4 := heap_set_cells (w := w3) (q := w.heap.size) (j := 3) (l := [.slice ca n1 cc, .slice ma n2 mc, .slice ia n3 ic, .slice sa n4 sc, .int .i64 s.fp, .int .i64 s.top, .slice ka n5 kc, .int .i64 s.pc, .slice oa n6 oc, .int .i64 0, .int .i64 s.trap]) (T := 64) hb3' (.slice va m4 vc)
  have hfr4 := fr_set w3 w.heap.size 3 (.slice va m4 vc)
  have hM4 := hM3.keep hfr4 (fun k hk => by intro e; subst e; exact not_F H.out (Nat.le_refl _) hk) (fun k hk h0 e => by have := rd_lt H.out.code (by decide) h0 hk; omega) (fun k hk h0 e => by have := rd_lt H.out.inp (by decide) h0 hk; omega)
  have hov4 := hfr4.owns hov (fun k hk e => by have := (hov.lt k hk).1; omega)
  have hm4' : Mv w F F (w3.setCell ⟨w.heap.size, 3, none⟩ (.slice va m4 vc)) := ⟨hm3.fr.setCell (p := ⟨w.heap.size, 3, none⟩) (.inl (Nat.le_refl _)) _, hm3.new⟩
  have d3 : w3.cell? ⟨w.heap.size, 3, none⟩ = some (.slice sa n4 sc) := by rw [cell_of_row w3 _ 3 _ _ _ hb3']; rfl
  have z3 := frozen_of_row w3 w.heap.size 3 _ _ hb3'
  have hl3 := World.block_lt_of_cell? _ _ d3
  have T := Lib.hid (try_any hM4 HOL.out)
  have HM4 := Lib.hid hM4
  have HM4' := Lib.hid hm4'
  have HOV4 := Lib.hid hov4
  have HS4 := Lib.hid hs4
  have HL1 := Lib.hid hl1
  have Hm4 := Lib.hid hm4
  clear hM3 hm3 hb3' hl1 hs4 hfr4 hM4 hov4 hm4' hM1 hm1 hb1 hov hb3 hm4
  go_wp2_with fail
  refine T.out.mono ?_
  rintro e w8 (⟨s', hs', rfl, hF8, _⟩ | ⟨hs', rfl, hR8⟩)
  · have HR := Lib.hid (show StP true w B q F (.slice ca n1 cc) (.slice ma n2 mc) (.slice ia n3 ic) s (.returned (.bool true)) w8 from ⟨by rw [HF.out]; rfl, by
      rw [step_run HF.out]; unfold SSt.step1; rw [hs']; exact hF8.pre HM4'.out⟩)
    clear hs' hF8
    go_wp2_with fail
    go_ret
    exact HR.out
  · obtain ⟨l, hll, hlb⟩ := hR8.blk
    obtain ⟨l0, l1, l2, l3, l4, l5, l6, l7, l8, l9, l10, rfl⟩ := eleven l hll
    have hrb : w8.heap[w.heap.size]? = some (.cells #[.slice ca n1 cc, .slice ma n2 mc, .slice ia n3 ic, .slice va m4 vc, .int .i64 s.fp, .int .i64 s.top, .slice ka n5 kc, .int .i64 s.pc, .slice oa n6 oc, .int .i64 0, .int .i64 s.trap] 64 (0, 0)) := by
      rw [hR8.fr.block _ (Array.getElem?_eq_some_iff.1 HS4.out).1 (not_F H.out (Nat.le_refl _))]; exact HS4.out
    have hql8 : q < w8.heap.size := (Array.getElem?_eq_some_iff.1 hlb).1
    have hne : w.heap.size ≠ q := by omega
    have r0 := cell_of_row w8 w.heap.size 0 _ _ _ hrb
    have r1 := cell_of_row w8 w.heap.size 1 _ _ _ hrb
    have r2 := cell_of_row w8 w.heap.size 2 _ _ _ hrb
    have r3 := cell_of_row w8 w.heap.size 3 _ _ _ hrb
    have r4 := cell_of_row w8 w.heap.size 4 _ _ _ hrb
    have r5 := cell_of_row w8 w.heap.size 5 _ _ _ hrb
    have r6 := cell_of_row w8 w.heap.size 6 _ _ _ hrb
    have r7 := cell_of_row w8 w.heap.size 7 _ _ _ hrb
    have r8 := cell_of_row w8 w.heap.size 8 _ _ _ hrb
    have r9 := cell_of_row w8 w.heap.size 9 _ _ _ hrb
    have r10 := cell_of_row w8 w.heap.size 10 _ _ _ hrb
    replace r0 : w8.cell? ⟨w.heap.size, 0, none⟩ = some (.slice ca n1 cc) := r0
    replace r1 : w8.cell? ⟨w.heap.size, 1, none⟩ = some (.slice ma n2 mc) := r1
    replace r2 : w8.cell? ⟨w.heap.size, 2, none⟩ = some (.slice ia n3 ic) := r2
    replace r3 : w8.cell? ⟨w.heap.size, 3, none⟩ = some (.slice va m4 vc) := r3
    replace r4 : w8.cell? ⟨w.heap.size, 4, none⟩ = some (.int .i64 s.fp) := r4
    replace r5 : w8.cell? ⟨w.heap.size, 5, none⟩ = some (.int .i64 s.top) := r5
    replace r6 : w8.cell? ⟨w.heap.size, 6, none⟩ = some (.slice ka n5 kc) := r6
    replace r7 : w8.cell? ⟨w.heap.size, 7, none⟩ = some (.int .i64 s.pc) := r7
    replace r8 : w8.cell? ⟨w.heap.size, 8, none⟩ = some (.slice oa n6 oc) := r8
    replace r9 : w8.cell? ⟨w.heap.size, 9, none⟩ = some (.int .i64 0) := r9
    replace r10 : w8.cell? ⟨w.heap.size, 10, none⟩ = some (.int .i64 s.trap) := r10
    have u0 : w8.cell? ⟨q, 0, none⟩ = some l0 := cell_of_row w8 q 0 _ _ _ hlb
    have f0 := frozen_of_row w8 q 0 _ _ hlb
    have u1 : w8.cell? ⟨q, 1, none⟩ = some l1 := cell_of_row w8 q 1 _ _ _ hlb
    have f1 := frozen_of_row w8 q 1 _ _ hlb
    have u2 : w8.cell? ⟨q, 2, none⟩ = some l2 := cell_of_row w8 q 2 _ _ _ hlb
    have f2 := frozen_of_row w8 q 2 _ _ hlb
    have u3 : w8.cell? ⟨q, 3, none⟩ = some l3 := cell_of_row w8 q 3 _ _ _ hlb
    have f3 := frozen_of_row w8 q 3 _ _ hlb
    have u4 : w8.cell? ⟨q, 4, none⟩ = some l4 := cell_of_row w8 q 4 _ _ _ hlb
    have f4 := frozen_of_row w8 q 4 _ _ hlb
    have u5 : w8.cell? ⟨q, 5, none⟩ = some l5 := cell_of_row w8 q 5 _ _ _ hlb
    have f5 := frozen_of_row w8 q 5 _ _ hlb
    have u6 : w8.cell? ⟨q, 6, none⟩ = some l6 := cell_of_row w8 q 6 _ _ _ hlb
    have f6 := frozen_of_row w8 q 6 _ _ hlb
    have u7 : w8.cell? ⟨q, 7, none⟩ = some l7 := cell_of_row w8 q 7 _ _ _ hlb
    have f7 := frozen_of_row w8 q 7 _ _ hlb
    have u8 : w8.cell? ⟨q, 8, none⟩ = some l8 := cell_of_row w8 q 8 _ _ _ hlb
    have f8 := frozen_of_row w8 q 8 _ _ hlb
    have u9 : w8.cell? ⟨q, 9, none⟩ = some l9 := cell_of_row w8 q 9 _ _ _ hlb
    have f9 := frozen_of_row w8 q 9 _ _ hlb
    have u10 : w8.cell? ⟨q, 10, none⟩ = some l10 := cell_of_row w8 q 10 _ _ _ hlb
    have f10 := frozen_of_row w8 q 10 _ _ hlb
    have HN := Lib.hid (nest13 hlb (.slice ca n1 cc) (.slice ma n2 mc) (.slice ia n3 ic) (.slice va m4 vc) (.int .i64 s.fp) (.int .i64 s.top) (.slice ka n5 kc) (.int .i64 s.pc) (.slice oa n6 oc) (.int .i64 0) (.int .i64 s.trap) (.int .i64 2) (.int .i64 15))
    have HR8 := Lib.hid hR8
    have HT := Lib.hid (show s.step = s.fault from by rw [step_run HF.out]; unfold SSt.step1; rw [hs']; rfl)
    clear hR8 hlb hrb hs' hll d3 z3
    go_wp2_with fail
    refine bodyPost_ret (results_tmp rfl _ _ _) rfl ?_
    obtain ⟨hb9, hfr9⟩ := HN.out
    have hq9 : ∀ k, F k → k ≠ q → ¬ k = q := fun _ _ h => h
    refine ⟨by rw [HF.out]; rfl, ?_⟩
    rw [HT.out]
    have hFw : ∀ k, F k → k < w.heap.size := fun k hk => (H.out.fb k hk).2
    have hvk : ∀ k, (Value.slice va m4 vc).ownBlock = some k → w.heap.size < k ∧ k < w8.heap.size := fun k hk => by
      have := HOV4.out.lt k hk; have := HL1.out; have := HR8.out.fr.size; omega
    have hAll := HR8.out.fr
    have hsz := hfr9.size
    have hsv : ∀ k, Also F (Value.slice va m4 vc) k → k ≠ q ∨ k = q := fun k _ => (Decidable.em (k = q)).symm
    have hap : ∀ (u : Value), (∀ k, u.ownBlock = some k → F k ∧ k ≠ q) → Ap u (.slice va m4 vc) := fun u hu k h1 h2 => by have := hFw k (hu k h1).1; have := (hvk k h2).1; omega
    refine ⟨Also F (.slice va m4 vc), .slice ia n3 ic, .slice va m4 vc, .slice ka n5 kc, .slice oa n6 oc, { mn := H.out.mn, fit := H.out.fit.ends 2 15, blk := ?_, code := ?_, mem := ?_, inp := ?_, ops := ?_, kept := ?_, out := ?_, fq := .inl H.out.fq, fm := fun k hk => ⟨.inl (H.out.fm k hk).1, (H.out.fm k hk).2⟩, fs := fun k hk => ⟨.inr hk, fun e => by have := (hvk k hk).1; omega⟩, fk := fun k hk => ⟨.inl (H.out.fk k hk).1, (H.out.fk k hk).2⟩, fo := fun k hk => ⟨.inl (H.out.fo k hk).1, (H.out.fo k hk).2⟩, ms := hap _ H.out.fm, mkp := H.out.mkp, mo := H.out.mo, sk := (hap _ H.out.fk).symm, so := (hap _ H.out.fo).symm, ko := H.out.ko, fb := ?_, fc := ?_, fi := ?_ }, rfl, ?_⟩
    · exact hb9
    · exact Rd_keep (Rd_keep (Rd_keep H.out.code HM4'.out.fr fun k hk h0 => H.out.fc k hk h0) hAll fun k hk h0 => H.out.fc k hk h0) hfr9 fun k hk h0 e => H.out.fc k hk h0 (by rw [e]; exact H.out.fq)
    · exact hfr9.owns HR8.out.mem fun k hk e => (H.out.fm k hk).2 e
    · exact Rd_keep (Rd_keep (Rd_keep H.out.inp HM4'.out.fr fun k hk h0 => H.out.fi k hk h0) hAll fun k hk h0 => H.out.fi k hk h0) hfr9 fun k hk h0 e => H.out.fi k hk h0 (by rw [e]; exact H.out.fq)
    · have ho := hfr9.owns (hAll.owns HOV4.out fun k hk hf => by have := hFw k hf; have := (hvk k hk).1; omega) fun k hk e => by have := (hvk k hk).1; omega
      have hB := H.out.Bq
      exact owns_mono (Nat.le_trans hB (Nat.le_of_lt HL1.out) |> fun h => by exact ho) (Nat.le_trans hB (Nat.le_of_lt HL1.out))
    · exact HR8.out.kept.keep hfr9 fun k hk e => (H.out.fk k hk).2 e
    · exact hfr9.owns HR8.out.out fun k hk e => (H.out.fo k hk).2 e
    · intro k hk
      rcases hk with hk | hk
      · exact ⟨(H.out.fb k hk).1, by have := hFw k hk; have := HM4'.out.fr.size; have := hAll.size; omega⟩
      · exact ⟨by have := H.out.Bq; have := (hvk k hk).1; omega, by have := (hvk k hk).2; omega⟩
    · intro k hk h0 hf
      rcases hf with hf | hf
      · exact H.out.fc k hk h0 hf
      · have := rd_lt H.out.code (by decide) h0 hk; have := (hvk k hf).1; omega
    · intro k hk h0 hf
      rcases hf with hf | hf
      · exact H.out.fi k hk h0 hf
      · have := rd_lt H.out.inp (by decide) h0 hk; have := (hvk k hf).1; omega
    · exact ⟨(HM4'.out.fr.trans hAll fun _ _ h => h).trans hfr9 (fun i _ e => by rw [e]; exact H.out.fq), fun k hk => hk.imp id fun h => by have := (hvk k h).1; omega⟩
theorem pstep_any (h : SM true w B q F cv mv iv sv kv ov s) (hol : s.out.length ≤ 1000000) :
    Calls Try.prog 26 #[.pointer (some ⟨q, 0, none⟩)] w (StP true w B q F cv mv iv s) := by
  by_cases hf : s.fin = 0
  · exact pstep_run h hol hf
  · exact pstep_stop h hf
end
end Go.Proofs.Ytgkdphnhfjjepaa

/- The reference's place, two. -/
namespace Go.Proofs.Ytgkdphnhfjjepaa
open Go.RowKit Go.Waf
set_option maxRecDepth 100000
set_option linter.unusedVariables false

theorem bit_any (b : Bool) (w : World) : Calls Try.prog 57 #[.bool b] w fun e w' => e = .returned (.int .u32 (tell b)) ∧ w' = w := by
  cases b
  all_goals
    go_enter Try.func57, Try.ntmps57
    go_wp2_with fail
    go_ret
    exact ⟨rfl, rfl⟩
def isTwo (op : Int) : Prop := isSum op ∨ op = 22 ∨ op = 23 ∨ op = 24
theorem tell_wrap (b : Bool) : wrap32 (tell b) = tell b := IntWalk.wrap32_in _ (by cases b <;> simp [tell])
set_option maxHeartbeats 1600000 in
theorem rtwo_cmp (op a b : Int) (r : Bool) (w : World) (ho : isCmp op a b r) :
    Calls Try.prog 58 #[.int .i64 op, .int .i32 a, .int .i32 b] w fun e w' => e = .returned (.tuple #[.int .i32 (tell r), .bool true]) ∧ w' = w := by
  have B := Lib.hid (fun W => bit_any r W)
  have HW := Lib.hid (tell_wrap r)
  rcases ho with ⟨rfl, hr⟩ | ⟨rfl, hr⟩ | ⟨rfl, hr⟩
  all_goals
    have HR := Lib.hid hr
    clear hr
    have B' := B
    rw [HR.out] at B'
    have HT := HW.out
    obtain ⟨T, hT⟩ : ∃ T, tell r = T := ⟨_, rfl⟩
    rw [hT] at HT
    have hT' := hT
    rw [HR.out] at hT'
    have HT2 := Lib.hid hT
    rw [hT'] at B'
    clear hT hT'
    go_enter Try.func58, Try.ntmps58
    go_wp2_with (go_at_call 57; refine (B'.out _).mono ?_; rintro e w1 ⟨rfl, rfl⟩)
    go_ret2
    exact ⟨by rw [HT2.out]; show Ending.returned (.tuple #[.int .i32 (wrap32 T), .bool true]) = _; rw [HT], rfl⟩
set_option maxHeartbeats 1600000 in
theorem rtwo_some (op a b x : Int) (w : World) (ho : isSum op) (ha : I32 a) (hb : I32 b) (hs : sumV op a b = some x) :
    Calls Try.prog 58 #[.int .i64 op, .int .i32 a, .int .i32 b] w fun e w' => e = .returned (.tuple #[.int .i32 x, .bool true]) ∧ w' = w := by
  unfold I32 at ha hb
  obtain ⟨ha0, ha1⟩ := ha
  obtain ⟨hb0, hb1⟩ := hb
  rcases ho with rfl | rfl | rfl | rfl | rfl | rfl | rfl | rfl | rfl | rfl | rfl
  · obtain rfl : wrap32 (a + b) = x := by simpa [sumV] using hs
    clear hs
    go_enter Try.func58, Try.ntmps58
    go_wp2_with fail
    go_ret2
    exact ⟨rfl, rfl⟩
  · obtain rfl : wrap32 (a - b) = x := by simpa [sumV] using hs
    clear hs
    go_enter Try.func58, Try.ntmps58
    go_wp2_with fail
    go_ret2
    exact ⟨rfl, rfl⟩
  · obtain rfl : wrap32 (a * b) = x := by simpa [sumV] using hs
    clear hs
    go_enter Try.func58, Try.ntmps58
    go_wp2_with fail
    go_ret2
    exact ⟨rfl, rfl⟩
  · obtain ⟨hd, rfl⟩ : 1 ≤ b ∧ a / b = x := by simpa [sumV] using hs
    clear hs
    have HC := Lib.hid (rdiv_yes a b w hd ha0 ha1 hb1)
    go_enter Try.func58, Try.ntmps58
    go_wp2_with (go_at_call 15; refine HC.out.mono ?_; rintro e w1 ⟨rfl, rfl⟩)
    go_ret2
    exact ⟨rfl, rfl⟩
  · obtain ⟨hd, rfl⟩ : 1 ≤ b ∧ a % b = x := by simpa [sumV] using hs
    clear hs
    have HC := Lib.hid (rmod_yes a b w hd hb1 ha0 ha1)
    go_enter Try.func58, Try.ntmps58
    go_wp2_with (go_at_call 16; refine HC.out.mono ?_; rintro e w1 ⟨rfl, rfl⟩)
    go_ret2
    exact ⟨rfl, rfl⟩
  · obtain rfl : bits .and .i32 a b = x := by simpa [sumV] using hs
    clear hs
    go_enter Try.func58, Try.ntmps58
    go_wp2_with fail
    go_ret2
    exact ⟨rfl, rfl⟩
  · obtain rfl : bits .or .i32 a b = x := by simpa [sumV] using hs
    clear hs
    go_enter Try.func58, Try.ntmps58
    go_wp2_with fail
    go_ret2
    exact ⟨rfl, rfl⟩
  · obtain rfl : bits .xor .i32 a b = x := by simpa [sumV] using hs
    clear hs
    go_enter Try.func58, Try.ntmps58
    go_wp2_with fail
    go_ret2
    exact ⟨rfl, rfl⟩
  · have HS := Lib.hid (show wrap32 (a * 2 ^ (b % 32).toNat) = x by simpa [sumV] using hs)
    clear hs
    go_enter Try.func58, Try.ntmps58
    go_wp2_with (go_at_call 17; refine (rlsl_any a b _).mono ?_; rw [HS.out]; rintro e w1 ⟨rfl, rfl⟩)
    go_ret2
    exact ⟨rfl, rfl⟩
  · have HS := Lib.hid (show a / 2 ^ (b % 32).toNat = x by simpa [sumV] using hs)
    clear hs
    go_enter Try.func58, Try.ntmps58
    go_wp2_with (go_at_call 18; refine (rasr_any a b _).mono ?_; rw [HS.out]; rintro e w1 ⟨rfl, rfl⟩)
    go_ret2
    exact ⟨rfl, rfl⟩
  · have HS := Lib.hid (show ror a b = x by simpa [sumV] using hs)
    clear hs
    go_enter Try.func58, Try.ntmps58
    go_wp2_with (go_at_call 19; refine (rror_any a b _).mono ?_; rw [HS.out]; rintro e w1 ⟨rfl, rfl⟩)
    go_ret2
    exact ⟨rfl, rfl⟩
theorem rtwo_none (op a b : Int) (w : World) (ho : isSum op) (hs : sumV op a b = none) :
    Calls Try.prog 58 #[.int .i64 op, .int .i32 a, .int .i32 b] w fun e w' => e = .returned (.tuple #[.int .i32 0, .bool false]) ∧ w' = w := by
  rcases ho with rfl | rfl | rfl | rfl | rfl | rfl | rfl | rfl | rfl | rfl | rfl
  · simp [sumV] at hs
  · simp [sumV] at hs
  · simp [sumV] at hs
  · have hd : b < 1 := by simp [sumV] at hs; omega
    clear hs
    have HC := Lib.hid (rdiv_no a b w hd)
    go_enter Try.func58, Try.ntmps58
    go_wp2_with (go_at_call 15; refine HC.out.mono ?_; rintro e w1 ⟨rfl, rfl⟩)
    go_ret2
    exact ⟨rfl, rfl⟩
  · have hd : b < 1 := by simp [sumV] at hs; omega
    clear hs
    have HC := Lib.hid (rmod_no a b w hd)
    go_enter Try.func58, Try.ntmps58
    go_wp2_with (go_at_call 16; refine HC.out.mono ?_; rintro e w1 ⟨rfl, rfl⟩)
    go_ret2
    exact ⟨rfl, rfl⟩
  · simp [sumV] at hs
  · simp [sumV] at hs
  · simp [sumV] at hs
  · simp [sumV] at hs
  · simp [sumV] at hs
  · simp [sumV] at hs
section
variable {w : World} {B q : Nat} {F : Nat → Prop} {cv mv iv sv kv ov : Value} {s : SSt}
theorem rplace_any (h : SM false w B q F cv mv iv sv kv ov s) (p k : Int) (hp : I32 p) (hk : I32 k) :
    Calls Try.prog 56 #[.pointer (some ⟨q, 0, none⟩), .int .i32 p, .int .i64 k] w fun e w' => e = .returned (.bool (decide (okAt s p k))) ∧ w' = w := by
  obtain ⟨a, c, rfl, _⟩ := owns_shape h.mem
  have c1 := h.r1
  have ml := h.fit.ml
  unfold I32 at hp hk
  obtain ⟨p0, p1⟩ := hp
  obtain ⟨k0, k1⟩ := hk
  obtain ⟨N, hN⟩ : ∃ N, N = s.mem.length := ⟨_, rfl⟩
  have he : ∀ b : Bool, (b = true ↔ (0 ≤ p ∧ 0 ≤ k ∧ k ≤ (N : Int) - p)) → b = decide (okAt s p k) := fun b hb => by rw [Bool.eq_iff_iff, hb, decide_eq_true_iff]; unfold okAt; rw [hN]
  rw [← hN] at c1 ml
  have HE := Lib.hid he
  have e1 : IntKind.i64.wrap p = p := IntWalk.i64_in _ (by omega)
  have e2 : IntKind.i64.wrap (p + k) = p + k := IntWalk.i64_in _ (by omega)
  clear h he hN
  by_cases h1 : 0 ≤ p
  · by_cases h2 : 0 ≤ k
    · go_enter Try.func56, Try.ntmps56
      go_wp2_with fail
      go_ret
      refine ⟨?_, rfl⟩
      show Ending.returned (.bool (decide (p + k ≤ (N : Int)))) = _
      rw [HE.out (decide (p + k ≤ (N : Int))) (by simp; omega)]
    · go_enter Try.func56, Try.ntmps56
      go_wp2_with fail
      go_ret
      refine ⟨?_, rfl⟩
      show Ending.returned (.bool false) = _
      rw [HE.out false (by simp; omega)]
  · go_enter Try.func56, Try.ntmps56
    go_wp2_with fail
    go_ret
    refine ⟨?_, rfl⟩
    show Ending.returned (.bool false) = _
    rw [HE.out false (by simp; omega)]
end
end Go.Proofs.Ytgkdphnhfjjepaa

/- The reference's do. -/
namespace Go.Proofs.Ytgkdphnhfjjepaa
open Go.RowKit Go.Waf
set_option maxRecDepth 100000
set_option linter.unusedVariables false
set_option linter.unusedSimpArgs false

/-- What the reference's do comes to. -/
def DoP (w : World) (B q : Nat) (F : Nat → Prop) (cv mv iv : Value) (s : SSt) (o : Option SSt) (e : Ending) (w' : World) : Prop :=
  (∃ s', o = some s' ∧ e = .returned (.bool true) ∧ FuQ false w B q F cv mv iv s' w') ∨ (o = none ∧ e = .returned (.bool false) ∧ FuQ false w B q F cv mv iv s w')
/-- So many operands are taken, left. -/
def fits (s : SSt) (op : Int) : Prop := takesC op ≤ s.st.length ∧ (s.st.length : Int) - takesC op + leavesC op ≤ 1000
theorem eff_in (op : Int) : 0 ≤ takesC op ∧ takesC op ≤ 2 ∧ 0 ≤ leavesC op ∧ leavesC op ≤ 2 := effT_le op.toNat
section
variable {w : World} {B q : Nat} {F : Nat → Prop} {cv mv iv sv kv ov : Value} {s : SSt}
set_option maxHeartbeats 3200000 in
theorem rdo_no (h : SM false w B q F cv mv iv sv kv ov s) (op k : Int) (hop : 0 ≤ op ∧ op < 34) (hf : ¬ fits s op) :
    Calls Try.prog 43 #[.pointer (some ⟨q, 0, none⟩), codeV op k] w fun e w' => e = .returned (.bool false) ∧ FuQ false w B q F cv mv iv s w' := by
  obtain ⟨a, c, rfl, _⟩ := rd_shape h.ops.rd
  have hql := h.lt
  have c2 := h.r2
  have hsl := h.fit.sl
  have E := Lib.hid (fun W => effect_any op hop W)
  obtain ⟨t0, t1, l0, l1⟩ := eff_in op
  have HR := Lib.hid (show FuQ false w B q F cv mv iv s (w.alloc (codeBox op k)) from (h.alloc _).fuq ((Mv.refl w F).alloc _))
  unfold fits at hf
  generalize s.st.length = N at c2 hf hsl HR
  generalize takesC op = A at E t0 t1 hf
  generalize leavesC op = L at E l0 l1 hf
  have e1 : IntKind.i64.wrap ((N : Int) - A) = N - A := IntWalk.i64_in _ (by omega)
  have e2 : IntKind.i64.wrap ((N : Int) - A + L) = N - A + L := IntWalk.i64_in _ (by omega)
  simp only [codeV]
  clear h hop
  by_cases hA : (N : Int) < A
  · clear hf
    go_enter Try.func43, Try.ntmps43
    go_wp2_with fail
    refine (E.out _).mono ?_; rintro e w1 ⟨rfl, rfl⟩
    go_wp2_with fail
    go_ret
    exact ⟨rfl, HR.out⟩
  · have hL : (1000 : Int) < (N : Int) - A + L := by omega
    clear hf
    go_enter Try.func43, Try.ntmps43
    go_wp2_with fail
    refine (E.out _).mono ?_; rintro e w1 ⟨rfl, rfl⟩
    go_wp2_with fail
    go_ret
    exact ⟨rfl, HR.out⟩
end
end Go.Proofs.Ytgkdphnhfjjepaa

/- The reference's do: what its walks share. -/
namespace Go.Proofs.Ytgkdphnhfjjepaa
open Go.RowKit Go.Waf
set_option maxRecDepth 100000
set_option linter.unusedVariables false

theorem take_rev (l : List Int) (a : Nat) (h : a ≤ l.length) : (i32s l.reverse).drop (l.length - a) = i32s (l.take a).reverse := by
  unfold i32s
  rw [← List.map_drop, List.drop_reverse]
  congr 3; omega
theorem drop_rev (l : List Int) (a : Nat) (h : a ≤ l.length) : (i32s l.reverse).take (l.length - a) = i32s (l.drop a).reverse := by
  unfold i32s
  rw [← List.map_take, List.take_reverse]
  congr 3; omega
/-- A slice that is read, from lo on. -/
theorem rd_from {w : World} {n c lo : Nat} {sa D : Option Addr} {cs : List Value} (h : Rd w 1 (.slice sa n c) n cs) (hlo : lo ≤ n) (hD : (if c = lo then sa else Option.map (fun x => x.add lo) sa) = D) : Rd w 1 (.slice D (n - lo) (c - lo)) (n - lo) (cs.drop lo) := by
  obtain ⟨hl, a', c', he, h1, h2, h3, h4⟩ := h
  cases he
  refine ⟨by rw [List.length_drop]; omega, D, c - lo, rfl, by omega, Nat.le_trans (Nat.sub_le _ _) h2, fun hn => ?_, fun hn => ?_⟩
  · cases sa with
    | none => have := h3 rfl; omega
    | some A =>
      by_cases hc : c = lo
      · omega
      · rw [if_neg hc] at hD; rw [hn] at hD; cases hD
  · obtain ⟨b, off, rfl, hc⟩ := h4 (by omega)
    rw [if_neg (by omega)] at hD
    refine ⟨b, off + lo, by rw [← hD]; simp [Addr.add_lit], fun j u hu => ?_⟩
    rw [List.getElem?_drop] at hu
    rw [Nat.add_assoc]; exact hc _ u hu
/-- append of nothing onto a slice that is full. -/
theorem app_nothing {P : Program} {w : World} {t e size bytes : Nat} {ops : Array Oper} {rest : List Oper} {o : Oper} {a : Act} {Q : Exit → Act → World → Prop} (E : Elem P t e size bytes) (hgd : o.guard = none) (s x : Operand)
    (ho : o.op = .call { callee := .builtin .append, args := #[s, x], argTypes := #[t, t] }) (sa : Option Addr) (n : Nat) (hs : a.eval s = .slice sa n n) (hx : a.eval x = .slice none 0 0) (h0 : sa = none → n = 0)
    (h : wpList P ops Q rest (a.put o.dst (.slice sa n n)) w) : wpList P ops Q (o :: rest) a w := by
  obtain ⟨i, z, hi, hz, hsi, hb, hzs⟩ := E.info
  have ht := E.und
  have hrun : (Builtin.append_ #[t, t] o.type #[.slice sa n n, .slice none 0 0]).run P w = .ok (.slice sa n n) w := by
    cases sa with
    | none =>
      have := h0 rfl; subst this
      simp [Builtin.append_, run_underlying ht, sizeOf, typeInfo, hi, Builtin.lenOf, Builtin.firstCells]
    | some A => simp [Builtin.append_, run_underlying ht, sizeOf, typeInfo, hi, Builtin.lenOf, Builtin.firstCells, storeCells]
  refine wpList_plain hgd fun K hK => ?_
  unfold Oper.wp
  simp [execOp, ho, resolve, invoke, builtin, hs, hx, hrun, Result.andThen]
  exact hK _ _ h
section
variable {w : World} {B q : Nat} {F : Nat → Prop} {cv mv iv sv kv ov : Value} {s : SSt}
theorem SM.rputPc (h : SM false w B q F cv mv iv sv kv ov s) (x : Int) (h1 : -2147483648 ≤ x) (h2 : x ≤ 2147483648) : SM false (w.setCell ⟨q, 5, none⟩ (.int .i64 x)) B q F cv mv iv sv kv ov { s with pc := x } := h.put 5 _ _ (h.fit.pcs h1 h2) rfl rfl rfl rfl rfl rfl rfl
theorem SM.rputFin (h : SM false w B q F cv mv iv sv kv ov s) (x : Int) : SM false (w.setCell ⟨q, 9, none⟩ (.int .i64 x)) B q F cv mv iv sv kv ov { s with fin := x } := h.put 9 _ _ (h.fit.ends x s.trap) rfl rfl rfl rfl rfl rfl rfl
theorem SM.rputTrap (h : SM false w B q F cv mv iv sv kv ov s) (x : Int) : SM false (w.setCell ⟨q, 10, none⟩ (.int .i64 x)) B q F cv mv iv sv kv ov { s with trap := x } := h.put 10 _ _ (h.fit.ends s.fin x) rfl rfl rfl rfl rfl rfl rfl
theorem SM.rputFp (h : SM false w B q F cv mv iv sv kv ov s) (x : Int) (h1 : 0 ≤ x) (h2 : x ≤ s.mem.length) : SM false (w.setCell ⟨q, 3, none⟩ (.int .i64 x)) B q F cv mv iv sv kv ov { s with fp := x } := h.put 3 _ _ (h.fit.frame h1 h2 h.fit.t0 h.fit.t1) rfl rfl rfl rfl rfl rfl rfl
theorem SM.rputTop (h : SM false w B q F cv mv iv sv kv ov s) (x : Int) (h1 : 0 ≤ x) (h2 : x ≤ s.mem.length) : SM false (w.setCell ⟨q, 4, none⟩ (.int .i64 x)) B q F cv mv iv sv kv ov { s with top := x } := h.put 4 _ _ (h.fit.frame h.fit.f0 h.fit.f1 h1 h2) rfl rfl rfl rfl rfl rfl rfl
/-- The end of do: the operands that are left, those that are laid; where to go on. -/
theorem rdo_end {w2 w3 : World} {F2 : Nat → Prop} {iv2 sv2 kv2 ov2 v3 : Value} {s2 : SSt} {o : List Int} {a : Nat} (h2 : SM false w2 B q F2 cv mv iv2 sv2 kv2 ov2 s2) (hm2 : Mv w F F2 w2) (hiv : iv2.ownBlock = iv.ownBlock)
    (ho : w3.ownsRow w2.heap.size 21 1 v3 (s2.st.length - a + o.length) (i32s (s2.st.drop a).reverse ++ i32s o)) (hg : w2.grownBy w3 none) (ha : a ≤ s2.st.length) (hoi : ∀ x ∈ o, I32 x) (hlen : s2.st.length - a + o.length ≤ 1000) (nx : Int) (n0 : -2147483648 ≤ nx) (n1 : nx ≤ 2147483648) :
    FuQ false w B q F cv mv iv { s2 with st := o.reverse ++ s2.st.drop a, pc := nx } ((w3.setCell ⟨q, 2, none⟩ v3).setCell ⟨q, 5, none⟩ (.int .i64 nx)) := by
  have hl : (o.reverse ++ s2.st.drop a).length = s2.st.length - a + o.length := by simp; omega
  have hfr : Fr (fun k => sv2.ownBlock = some k) w2 w3 := (Fr.of_grown (F := fun _ => False) hg (fun k e => by cases e)).mono (fun _ _ h => h.elim)
  have hnew : newer w2 w3 sv2 v3 := fun k hk => .inr ⟨(ho.lt k hk).1, (ho.lt k hk).2⟩
  have hfit : SFit { s2 with st := o.reverse ++ s2.st.drop a } := h2.fit.stk (fun x hx => by
    rcases List.mem_append.1 hx with hx | hx
    · exact hoi x (List.mem_reverse.1 hx)
    · exact h2.fit.st x (List.mem_of_mem_drop hx)) (by rw [hl]; exact hlen)
  have hrow : Row false w3 B 21 1 v3 (o.reverse ++ s2.st.drop a).length (i32s (o.reverse ++ s2.st.drop a).reverse) := by
    rw [hl]
    have e : i32s (o.reverse ++ s2.st.drop a).reverse = i32s (s2.st.drop a).reverse ++ i32s o := by simp [i32s]
    rw [e]; exact rd_of_owns ho
  have h3 := h2.newS hfr hrow hnew hfit
  exact ⟨_, _, _, _, _, h3.rputPc nx n0 n1, hiv, (hm2.trans (fr_also (B := B) (j := 2) hfr (fun k hk => (h2.fs k hk).1) h2.fq hnew)).set h3.fq 5 _⟩
/-- The same, nothing is laid. -/
theorem rdo_end0 {w2 : World} {F2 : Nat → Prop} {iv2 kv2 ov2 : Value} {sa : Option Addr} {sc : Nat} {s2 : SSt} {a : Nat} (h2 : SM false w2 B q F2 cv mv iv2 (.slice sa s2.st.length sc) kv2 ov2 s2) (hm2 : Mv w F F2 w2) (hiv : iv2.ownBlock = iv.ownBlock)
    (ha : a ≤ s2.st.length) (nx : Int) (n0 : -2147483648 ≤ nx) (n1 : nx ≤ 2147483648) :
    FuQ false w B q F cv mv iv { s2 with st := s2.st.drop a, pc := nx } ((w2.setCell ⟨q, 2, none⟩ (.slice sa (s2.st.length - a) (s2.st.length - a))).setCell ⟨q, 5, none⟩ (.int .i64 nx)) := by
  have hl : (s2.st.drop a).length = s2.st.length - a := by simp
  have hnew : newer w2 w2 (.slice sa s2.st.length sc) (.slice sa (s2.st.length - a) (s2.st.length - a)) := fun k hk => .inl (by cases sa <;> exact hk)
  have hfit : SFit { s2 with st := s2.st.drop a } := h2.fit.stk (fun x hx => h2.fit.st x (List.mem_of_mem_drop hx)) (by rw [hl]; have := h2.fit.sl; omega)
  have hrow : Row false w2 B 21 1 (.slice sa (s2.st.length - a) (s2.st.length - a)) (s2.st.drop a).length (i32s (s2.st.drop a).reverse) := by
    rw [hl, ← drop_rev _ _ ha]
    have hr : Rd w2 1 (.slice sa s2.st.length sc) s2.st.length (i32s s2.st.reverse) := h2.ops.rd
    obtain ⟨_, _, hsv, hnc, _⟩ := rd_shape hr
    cases hsv
    have := Rd.take (s2.st.length - a) (s2.st.length - a) (by omega) (Nat.le_refl _) (by omega) hr
    rw [Nat.mul_one] at this; exact this
  have h3 := h2.newS (Fr.refl _ _) hrow hnew hfit
  exact ⟨_, _, _, _, _, h3.rputPc nx n0 n1, hiv, (hm2.trans (fr_also (B := B) (j := 2) (Fr.refl _ _) (fun k hk => (h2.fs k hk).1) h2.fq hnew)).set h3.fq 5 _⟩
end
end Go.Proofs.Ytgkdphnhfjjepaa

/- The reference's do, operation by operation (printed by gen_stk31.py). -/
namespace Go.Proofs.Ytgkdphnhfjjepaa
open Go.RowKit Go.Waf
set_option maxRecDepth 100000
set_option linter.unusedVariables false
set_option linter.unusedSimpArgs false

theorem elemRK : Elem Try.prog 70 93 2 16 := Elem.mk' (z := .agg #[.int .i64 0, .int .i64 0]) Try.underlying70 (by kernel_rfl) rfl (by decide)
theorem step_app_full {P : Program} {ops : Array Oper} {o : Oper} {a : Act} {w : World} {K : Act → World → Prop} {Q : Exit → Act → World → Prop} {X : Prop} {t e size bytes : Nat} (E : Elem P t e size bytes) (hgd : o.guard = none) (s x : Operand)
    (ho : o.op = .call { callee := .builtin .append, args := #[s, x], argTypes := #[t, t] })
    (ao : Option Addr) (n : Nat) (xs : List Value) (hs : a.eval s = .slice ao n n) (hown : Rd w size (.slice ao n n) n xs)
    (vx : Value) (m : Nat) (news : List Value) (hx : a.eval x = vx) (hr : Rd w size vx m news) (h1 : ∀ u ∈ news, u.oneCell' = true) (hm : 0 < m)
    (h63 : n + m ≤ maxLen) (hbytes : (n + m) * bytes ≤ 140737488355328)
    (h : ∀ v' w', w'.ownsRow w.heap.size e size v' (n + m) (xs ++ news) → w.grownBy w' none → K (a.put o.dst v') w') : if Region.wanted o (yielded ops a.tmps) = true then Oper.wp P o a w K Q else X := by
  obtain ⟨i, z, hi, hz, hsi, hb, hzs⟩ := E.info
  obtain ⟨hl, ad, cap, rfl, c1, c2, c3, c4⟩ := hr
  obtain ⟨hl', ad', cap', he, d1, d2, d3, d4⟩ := hown
  cases he
  obtain ⟨b, off, rfl, hc⟩ := c4 hm
  refine step_append_grows hgd s x t ho e i z size bytes E.und hi hz hsi hb hzs E.pos ao n n xs hs (fun ha => by have := d3 ha; omega) hl' ?_ _ m cap news hx hl (fun j u hu => by rw [Addr.add_lit]; exact hc j u hu) h1 (by omega) h63 hbytes h
  intro bb hbb j u hu
  subst hbb
  have hn : 0 < n := by
    rcases Nat.eq_zero_or_pos n with h0 | h0
    · subst h0
      obtain rfl : xs = [] := List.eq_nil_of_length_eq_zero (by simpa using hl')
      simp at hu
    · exact h0
  obtain ⟨b', off', e1, hc'⟩ := d4 hn
  cases e1
  rw [Addr.add_lit]; exact hc' j u hu
section
variable {w : World} {B q : Nat} {F : Nat → Prop} {cv mv iv sv kv ov : Value} {s : SSt}
theorem rd_left {w2 : World} {sa : Option Addr} {sc N M a : Nat} (h : SM false w2 B q F cv mv iv sv kv ov s) (hsv : sv = .slice sa s.st.length sc) (hN : N = s.st.length) (hM : M = s.st.length - a) (o : Obj) : Rd (w2.alloc o) 1 (.slice sa M M) M (i32s (s.st.drop a).reverse) := by
  subst hM hsv
  have hr : Rd (w2.alloc o) 1 (.slice sa s.st.length sc) s.st.length (i32s s.st.reverse) := (h.alloc o).ops.rd
  obtain ⟨_, _, hsv, hnc, _⟩ := rd_shape hr
  cases hsv
  have := Rd.take (s.st.length - a) (s.st.length - a) (by omega) (Nat.le_refl _) (by omega) hr
  rw [Nat.mul_one] at this
  rcases Nat.le_total a s.st.length with ha | ha
  · rw [← drop_rev _ _ ha]; exact this
  · have e1 : s.st.length - a = 0 := by omega
    rw [e1] at this ⊢
    rw [List.drop_eq_nil_of_le ha]; simpa [i32s] using this
theorem rd_left0 {w2 : World} {sa : Option Addr} {sc N M a : Nat} (h : SM false w2 B q F cv mv iv sv kv ov s) (hsv : sv = .slice sa s.st.length sc) (hN : N = s.st.length) (hM : M = s.st.length - a) : Rd w2 1 (.slice sa M M) M (i32s (s.st.drop a).reverse) := by
  subst hM hsv
  have hr : Rd w2 1 (.slice sa s.st.length sc) s.st.length (i32s s.st.reverse) := h.ops.rd
  obtain ⟨_, _, hsv, hnc, _⟩ := rd_shape hr
  cases hsv
  have := Rd.take (s.st.length - a) (s.st.length - a) (by omega) (Nat.le_refl _) (by omega) hr
  rw [Nat.mul_one] at this
  rcases Nat.le_total a s.st.length with ha | ha
  · rw [← drop_rev _ _ ha]; exact this
  · have e1 : s.st.length - a = 0 := by omega
    rw [e1] at this ⊢
    rw [List.drop_eq_nil_of_le ha]; simpa [i32s] using this
theorem rd_sv {w2 : World} {F2 : Nat → Prop} {iv2 kv2 ov2 : Value} {sa : Option Addr} {sc : Nat} {s2 : SSt} (h : SM false w2 B q F2 cv mv iv2 sv kv2 ov2 s2) (hsv : sv = .slice sa s2.st.length sc) : SM false w2 B q F2 cv mv iv2 (.slice sa s2.st.length sc) kv2 ov2 s2 := hsv ▸ h
theorem SM.grown {p : Bool} {w2 : World} (h : SM p w B q F cv mv iv sv kv ov s) (hg : w.grownBy w2 none) : SM p w2 B q F cv mv iv sv kv ov s :=
  h.keep (G := fun _ => False) (Fr.of_grown hg (fun k e => by cases e)) (fun _ _ h => h) (fun _ _ _ h => h) (fun _ _ _ h => h)
theorem Mv.grown {w1 w2 : World} {F1 : Nat → Prop} (h : Mv w F F1 w1) (hg : w1.grownBy w2 none) : Mv w F F1 w2 := h.trans ⟨Fr.of_grown hg (fun k e => by cases e), fun _ h => .inl h⟩
theorem st_owned {w2 : World} {n : Nat} {b : Nat} {v : Value} {xs : List Int} (h : w2.ownsRow b 21 1 v n (i32s xs)) (hn : 0 < n) (hl : xs.length = n) : ∃ g c, v = .slice (some ⟨g, 0, none⟩) n c ∧ n ≤ c ∧ b ≤ g ∧ ∀ j, j < n → w2.cell? ⟨g, j, none⟩ = some (.int .i32 (xs.getD j 0)) := by
  obtain ⟨g, c, rfl, h1, h2, h3, h4⟩ := owns_some h hn
  exact ⟨g, c, rfl, h3, h1, fun j hj => by rw [h.cellAt j (by omega), i32s_get _ _ (by omega)]⟩
end
end Go.Proofs.Ytgkdphnhfjjepaa
