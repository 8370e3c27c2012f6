/- The walk of PortPicks. -/
import Derived.Test.YtjgndjcpdedkiaaPort3
namespace Go.Proofs.Ytjgndjcpdedkiaa
open Go.RowKit Go.Waf Go.Conc
set_option maxRecDepth 100000
set_option linter.unusedVariables false
attribute [local go_sem] mask1_u8

theorem elemP : Elem Try.prog 25 26 1 8 := Elem.mk' (z := .pointer none) Try.underlying25 (by kernel_rfl) rfl (by decide)
def ptrV : Option (Nat × Nat) → Value
  | none => .pointer none
  | some (g, _) => .pointer (some ⟨g, 0, none⟩)
theorem ptrV_one (o : Option (Nat × Nat)) : (ptrV o).oneCell' = true := by
  cases o with
  | none => rfl
  | some p => rfl
theorem PortAt.mono {w : World} {B B' g h cap : Nat} {q : List Int} {shut : Bool} (hp : PortAt w B' g h cap q shut) (hB : B ≤ B') : PortAt w B g h cap q shut :=
  ⟨hp.blk, hp.chn, ⟨Nat.le_trans hB hp.base.1, Nat.le_trans hB hp.base.2⟩, hp.ne, hp.le⟩

/-- Three texts in an array, the first k of them in ports. -/
structure Picks (w0 wr : World) (A B k : Nat) (G : Nat → Option (Nat × Nat)) (Q : Nat → List Int) (S : Nat → Value) (v : Value) : Prop where
  arr : wr.heap[A]? = some (.cells #[S 0, S 1, S 2] 24 (0, 0))
  lst : wr.ownsRow B 26 1 v k ((List.range k).map fun j => ptrV (G j))
  row : ∀ j, j < 3 → Rd w0 1 (S j) (Q j).length (byt (Q j)) ∧ (Q j).length ≤ 20
  gone : ∀ j, j < k → G j = none → Q j = []
  port : ∀ j, j < k → ∀ g h, G j = some (g, h) → PortAt wr B g h 20 (Q j) false ∧ A ≠ g ∧ A ≠ h ∧ v.ownBlock ≠ some g ∧ v.ownBlock ≠ some h
  sep : ∀ i j, i < k → j < k → i ≠ j → ∀ g h g' h', G i = some (g, h) → G j = some (g', h') → g ≠ g' ∧ h ≠ h' ∧ g ≠ h' ∧ h ≠ g'
  vA : v.ownBlock ≠ some A
  bA : B ≤ A
  base : w0.heap.size ≤ B
  below : Below w0.heap.size w0 wr
theorem Picks.alt {w0 wr : World} {A B k : Nat} {G : Nat → Option (Nat × Nat)} {Q : Nat → List Int} {S : Nat → Value} {v : Value} (hp : Picks w0 wr A B k G Q S v) : A < wr.heap.size := (Array.getElem?_eq_some_iff.1 hp.arr).1
theorem Picks.cell {w0 wr : World} {A B k : Nat} {G : Nat → Option (Nat × Nat)} {Q : Nat → List Int} {S : Nat → Value} {v : Value} (hp : Picks w0 wr A B k G Q S v) (j : Nat) (hj : j < 3) : wr.cell? ⟨A, j, none⟩ = some (S j) ∧ wr.frozen? ⟨A, j, none⟩ = false := by
  refine ⟨?_, frozen_of_row wr A j _ _ hp.arr⟩
  rw [cell_of_row wr A j _ _ _ hp.arr]
  rcases (by omega : j = 0 ∨ j = 1 ∨ j = 2) with rfl | rfl | rfl <;> rfl
theorem Picks.keep {w0 wr w' : World} {A B k : Nat} {G : Nat → Option (Nat × Nat)} {Q : Nat → List Int} {S : Nat → Value} {v : Value} (hp : Picks w0 wr A B k G Q S v) (hb : Below wr.heap.size wr w') : Picks w0 w' A B k G Q S v :=
  { hp with
    arr := by rw [hb.block A hp.alt]; exact hp.arr
    lst := (Fr.of_new (F := fun _ => False) hb).owns hp.lst (fun _ _ h => h)
    port := fun j hj g h hG => ⟨(hp.port j hj g h hG).1.keep hb (Nat.le_refl _), (hp.port j hj g h hG).2⟩
    below := hp.below.trans (hb.mono hp.below.size) }
/-- A text of the array, set anew. -/
theorem Picks.set {w0 wr : World} {A B k : Nat} {G : Nat → Option (Nat × Nat)} {Q : Nat → List Int} {S : Nat → Value} {v : Value} (hp : Picks w0 wr A B k G Q S v) (j : Nat) (hj : j < 3) (s : Value) (q : List Int) (hk : k ≤ j)
    (hs : Rd w0 1 s q.length (byt q)) (hq : q.length ≤ 20) : Picks w0 (wr.setCell ⟨A, j, none⟩ s) A B k G (fun i => if i = j then q else Q i) (fun i => if i = j then s else S i) v := by
  have hb : ∀ i, i ≠ A → (wr.setCell ⟨A, j, none⟩ s).heap[i]? = wr.heap[i]? := fun i hi => Below.heap_setCell wr _ _ _ hi
  have hF : Fr (fun i => i = A) wr (wr.setCell ⟨A, j, none⟩ s) := (Fr.refl (fun i => i = A) wr).setCell (.inr rfl) _
  refine ⟨?_, hF.owns hp.lst (fun i hi e => hp.vA (by rw [hi, e])), ?_, ?_, ?_, hp.sep, hp.vA, hp.bA, hp.base, hp.below.setCell (Nat.le_trans hp.base hp.bA) _⟩
  · rw [heap_setCell_same wr A j _ _ _ hp.arr]
    rcases (by omega : j = 0 ∨ j = 1 ∨ j = 2) with rfl | rfl | rfl <;> rfl
  · intro i hi
    by_cases he : i = j
    · simp only [he, if_true]; exact ⟨hs, hq⟩
    · simp only [he, if_false]; exact hp.row i hi
  · intro i hi hG
    have : i ≠ j := by omega
    simp only [this, if_false]; exact hp.gone i hi hG
  · intro i hi g h hG
    have : i ≠ j := by omega
    simp only [this, if_false]
    obtain ⟨h1, h2, h3, h4⟩ := hp.port i hi g h hG
    exact ⟨h1.fr hF (fun e => h2 e.symm) (fun e => h3 e.symm), h2, h3, h4⟩
/-- One more port, or none. -/
theorem Picks.add {w0 wr w' : World} {A B k : Nat} {G : Nat → Option (Nat × Nat)} {Q : Nat → List Int} {S : Nat → Value} {v v' : Value} (hp : Picks w0 wr A B k G Q S v) (o : Option (Nat × Nat)) (hn : o = none → Q k = [])
    (ho : ∀ g h, o = some (g, h) → PortAt wr B g h 20 (Q k) false ∧ A ≠ g ∧ A ≠ h ∧ v.ownBlock ≠ some g ∧ v.ownBlock ≠ some h ∧ ∀ j, j < k → ∀ g' h', G j = some (g', h') → g ≠ g' ∧ h ≠ h' ∧ g ≠ h' ∧ h ≠ g')
    (hown : w'.ownsRow B 26 1 v' (k + 1) ((List.range k).map (fun j => ptrV (G j)) ++ [ptrV o])) (hF : Fr (fun i => v.ownBlock = some i) wr w') (hfr : ∀ i, v'.ownBlock = some i → v.ownBlock = some i ∨ wr.heap.size ≤ i) :
    Picks w0 w' A B (k + 1) (fun i => if i = k then o else G i) Q S v' := by
  have hlt := hp.alt
  refine ⟨?_, ?_, hp.row, ?_, ?_, ?_, ?_, hp.bA, hp.base, hp.below.trans (hF.below hp.below.size fun i hi e => by have := (hp.lst.lt i e).1; have := hp.base; omega)⟩
  · rw [hF.block A hlt (fun e => hp.vA e)]; exact hp.arr
  · have e : (List.range (k + 1)).map (fun j => ptrV (if j = k then o else G j)) = (List.range k).map (fun j => ptrV (G j)) ++ [ptrV o] := by
      rw [List.range_succ, List.map_append]
      congr 1
      · apply List.map_congr_left
        intro j hj
        have := List.mem_range.1 hj
        rw [if_neg (by omega)]
      · simp
    rw [e]; exact hown
  · intro j hj hG
    by_cases he : j = k
    · subst he; simp only [if_true] at hG; exact hn hG
    · simp only [he, if_false] at hG; exact hp.gone j (by omega) hG
  · intro j hj g h hG
    by_cases he : j = k
    · subst he
      simp only [if_true] at hG
      obtain ⟨h1, h2, h3, h4, h5, _⟩ := ho g h hG
      have hl := h1.lt
      exact ⟨h1.fr hF (fun e => h4 e) (fun e => h5 e), h2, h3, fun e => by rcases hfr g e with h6 | h6; exact h4 h6; omega, fun e => by rcases hfr h e with h6 | h6; exact h5 h6; omega⟩
    · simp only [he, if_false] at hG
      obtain ⟨h1, h2, h3, h4, h5⟩ := hp.port j (by omega) g h hG
      have hl := h1.lt
      exact ⟨h1.fr hF (fun e => h4 e) (fun e => h5 e), h2, h3, fun e => by rcases hfr g e with h6 | h6; exact h4 h6; omega, fun e => by rcases hfr h e with h6 | h6; exact h5 h6; omega⟩
  · intro i j hi hj hij g h g' h' hG hG'
    by_cases he : i = k
    · subst he
      have hj' : j ≠ i := fun e => hij e.symm
      simp only [if_true] at hG
      simp only [hj', if_false] at hG'
      exact (ho g h hG).2.2.2.2.2 j (by omega) g' h' hG'
    · simp only [he, if_false] at hG
      by_cases he' : j = k
      · subst he'
        simp only [if_true] at hG'
        obtain ⟨h1, h2, h3, h4⟩ := (ho g' h' hG').2.2.2.2.2 i (by omega) g h hG
        exact ⟨h1.symm, h2.symm, h4.symm, h3.symm⟩
      · simp only [he', if_false] at hG'
        exact hp.sep i j (by omega) (by omega) hij g h g' h' hG hG'
  · intro e
    rcases hfr A e with h6 | h6
    · exact hp.vA h6
    · omega
/-- What is asked of Pick. -/
theorem Picks.spots {w0 wr : World} {A B b cap : Nat} {G : Nat → Option (Nat × Nat)} {Q : Nat → List Int} {S : Nat → Value} (hp : Picks w0 wr A B 3 G Q S (.slice (some ⟨b, 0, none⟩) 3 cap)) :
    ∀ j, j < 3 → wr.cell? ⟨b, 0 + j, none⟩ = some (ptrV (G j)) ∧ SpotAt wr B 20 (ptrV (G j)) (G j) (Q j) := by
  intro j hj
  refine ⟨?_, ?_⟩
  · rw [Nat.zero_add, hp.lst.cellAt j (by omega)]
    simp [hj]
  · cases hG : G j with
    | none => rfl
    | some p => obtain ⟨g, h⟩ := p; exact ⟨rfl, (hp.port j hj g h hG).1⟩
/-- The port at j has given its first byte, and its text lost it. -/
theorem Picks.popped {w0 wr w4 : World} {A B : Nat} {G : Nat → Option (Nat × Nat)} {Q : Nat → List Int} {S : Nat → Value} {v : Value} (hp : Picks w0 wr A B 3 G Q S v) (j : Nat) (hj : j < 3) (g h : Nat) (hG : G j = some (g, h)) (c : Int) (q : List Int) (hQ : Q j = c :: q)
    (hp4 : PortAt w4 B g h 20 q false) (hF : Fr (fun k => k = h) wr w4) (s : Value) (hs : Rd w0 1 s q.length (byt q)) :
    Picks w0 (w4.setCell ⟨A, j, none⟩ s) A B 3 G (fun i => if i = j then q else Q i) (fun i => if i = j then s else S i) v := by
  obtain ⟨h1, h2, h3, h4, h5⟩ := hp.port j hj g h hG
  have hF2 : Fr (fun i => i = A) w4 (w4.setCell ⟨A, j, none⟩ s) := (Fr.refl (fun i => i = A) w4).setCell (.inr rfl) _
  have harr : w4.heap[A]? = some (.cells #[S 0, S 1, S 2] 24 (0, 0)) := by rw [hF.block A hp.alt h3]; exact hp.arr
  have hb4 : Below w0.heap.size w0 w4 := hp.below.trans (hF.below hp.below.size fun i hi e => by have := h1.base; have := hp.base; omega)
  have hl := hp.row j hj
  refine ⟨?_, hF2.owns (hF.owns hp.lst (fun i hi e => h5 (by rw [hi, e]))) (fun i hi e => hp.vA (by rw [hi, e])), ?_, ?_, ?_, hp.sep, hp.vA, hp.bA, hp.base, hb4.setCell (Nat.le_trans hp.base hp.bA) _⟩
  · rw [heap_setCell_same w4 A j _ _ _ harr]
    rcases (by omega : j = 0 ∨ j = 1 ∨ j = 2) with rfl | rfl | rfl <;> rfl
  · intro i hi
    by_cases he : i = j
    · simp only [he, if_true]
      refine ⟨hs, ?_⟩
      have := hl.2; rw [hQ] at this; simp at this; omega
    · simp only [he, if_false]; exact hp.row i hi
  · intro i hi hGi
    by_cases he : i = j
    · subst he; rw [hG] at hGi; cases hGi
    · simp only [he, if_false]; exact hp.gone i hi hGi
  · intro i hi g' h' hGi
    by_cases he : i = j
    · subst he
      rw [hG] at hGi
      cases hGi
      simp only [if_true]
      exact ⟨hp4.fr hF2 (fun e => h2 e.symm) (fun e => h3 e.symm), h2, h3, h4, h5⟩
    · simp only [he, if_false]
      obtain ⟨k1, k2, k3, k4, k5⟩ := hp.port i hi g' h' hGi
      obtain ⟨s1, s2, s3, s4⟩ := hp.sep i j hi hj he g' h' g h hGi hG
      exact ⟨(k1.fr hF (fun e => s3 e) (fun e => s2 e)).fr hF2 (fun e => k2 e.symm) (fun e => k3 e.symm), k2, k3, k4, k5⟩
/-- Which one is first, if any. -/
theorem first_of (Q : Nat → List Int) : (∀ i, i < 3 → Q i = []) ∨ ∃ j, j < 3 ∧ (∀ i, i < j → Q i = []) ∧ Q j ≠ [] := by
  by_cases h0 : Q 0 = []
  · by_cases h1 : Q 1 = []
    · by_cases h2 : Q 2 = []
      · refine .inl fun i hi => ?_
        rcases (by omega : i = 0 ∨ i = 1 ∨ i = 2) with rfl | rfl | rfl <;> assumption
      · refine .inr ⟨2, by omega, fun i hi => ?_, h2⟩
        rcases (by omega : i = 0 ∨ i = 1) with rfl | rfl <;> assumption
    · exact .inr ⟨1, by omega, fun i hi => by rw [show i = 0 by omega]; exact h0, h1⟩
  · exact .inr ⟨0, by omega, fun i hi => absurd hi (by omega), h0⟩
theorem sum_popped (Q : Nat → List Int) (m : Nat) (hm : m < 3) (c : Int) (q : List Int) (hq : Q m = c :: q) : ((fun i => if i = m then q else Q i) 0).length + ((fun i => if i = m then q else Q i) 1).length + ((fun i => if i = m then q else Q i) 2).length = (Q 0).length + (Q 1).length + (Q 2).length - 1 := by
  rcases (by omega : m = 0 ∨ m = 1 ∨ m = 2) with rfl | rfl | rfl <;> simp [hq] <;> omega

set_option maxHeartbeats 3200000 in
theorem portPicks_walk (a0 : Option Addr) (n0 c0 : Nat) (xs : List Int) (a1 : Option Addr) (n1 c1 : Nat) (ys : List Int) (a2 : Option Addr) (n2 c2 : Nat) (zs : List Int) (x : Int) (hx0 : 0 ≤ x) (hx1 : x ≤ 255) (w : World)
    (hr0 : Rd w 1 (.slice a0 n0 c0) n0 (byt xs)) (hr1 : Rd w 1 (.slice a1 n1 c1) n1 (byt ys)) (hr2 : Rd w 1 (.slice a2 n2 c2) n2 (byt zs))
    (hd0 : n0 ≤ c0 ∧ c0 ≤ 9223372036854775807) (hd1 : n1 ≤ c1 ∧ c1 ≤ 9223372036854775807) (hd2 : n2 ≤ c2 ∧ c2 ≤ 9223372036854775807) :
    Calls Try.prog 3 #[.slice a0 n0 c0, .slice a1 n1 c1, .slice a2 n2 c2, .int .u8 x] w fun e w' => e = .returned (.bool true) ∧ Below w.heap.size w w' := by
  obtain ⟨d0, d0'⟩ := hd0
  obtain ⟨d1, d1'⟩ := hd1
  obtain ⟨d2, d2'⟩ := hd2
  by_cases hbig0 : 20 < n0
  · go_enter Try.func3, Try.ntmps3
    go_wp2_with fail
    refine (known10 _).mono ?_; rintro e w1 ⟨rfl, hb1⟩
    go_wp2_with fail
    go_ret
    exact ⟨rfl, hb1⟩
  by_cases hbig1 : 20 < n1
  · go_enter Try.func3, Try.ntmps3
    go_wp2_with fail
    refine (known10 _).mono ?_; rintro e w1 ⟨rfl, hb1⟩
    go_wp2_with fail
    go_ret
    exact ⟨rfl, hb1⟩
  by_cases hbig2 : 20 < n2
  · go_enter Try.func3, Try.ntmps3
    go_wp2_with fail
    refine (known10 _).mono ?_; rintro e w1 ⟨rfl, hb1⟩
    go_wp2_with fail
    go_ret
    exact ⟨rfl, hb1⟩
  have hl0 : xs.length = n0 := by have := hr0.1; simpa [byt] using this
  have hl1 : ys.length = n1 := by have := hr1.1; simpa [byt] using this
  have hl2 : zs.length = n2 := by have := hr2.1; simpa [byt] using this
  obtain ⟨Q0, hQ0⟩ : ∃ Q0 : Nat → List Int, Q0 = fun j => if j = 0 then xs else if j = 1 then ys else zs := ⟨_, rfl⟩
  obtain ⟨S0, hS0⟩ : ∃ S0 : Nat → Value, S0 = fun j => if j = 0 then .slice a0 n0 c0 else if j = 1 then .slice a1 n1 c1 else .slice a2 n2 c2 := ⟨_, rfl⟩
  have hrow : ∀ j, j < 3 → Rd w 1 (S0 j) (Q0 j).length (byt (Q0 j)) ∧ (Q0 j).length ≤ 20 := by
    intro j hj
    rcases (by omega : j = 0 ∨ j = 1 ∨ j = 2) with rfl | rfl | rfl
    · rw [hS0, hQ0]; exact ⟨by simp only [if_true]; rw [hl0]; exact hr0, by simp only [if_true]; omega⟩
    · rw [hS0, hQ0]; exact ⟨by simp; rw [hl1]; exact hr1, by simp; omega⟩
    · rw [hS0, hQ0]; exact ⟨by simp; rw [hl2]; exact hr2, by simp; omega⟩
  have HROW := Lib.hid hrow
  have e0 : S0 0 = .slice a0 n0 c0 := by rw [hS0]; rfl
  have e1 : S0 1 = .slice a1 n1 c1 := by rw [hS0]; rfl
  have e2 : S0 2 = .slice a2 n2 c2 := by rw [hS0]; rfl
  have E0 := Lib.hid e0
  have E1 := Lib.hid e1
  have E2 := Lib.hid e2
  clear hr0 hr1 hr2 hl0 hl1 hl2 hQ0 hS0 hrow e0 e1 e2
  go_enter Try.func3, Try.ntmps3
  go_wp2_with fail
  refine (known10 _).mono ?_; rintro e w1 ⟨rfl, b1⟩
  have B1 := Lib.hid b1
  clear b1
  have P0 : Picks w (w1.alloc (Obj.cells #[Value.slice a0 n0 c0, .slice a1 n1 c1, .slice a2 n2 c2] 24)) w1.heap.size w1.heap.size 0 (fun _ => none) Q0 S0 (.slice none 0 0) :=
    ⟨by rw [E0.out, E1.out, E2.out]; exact heap_alloc_new w1 _, World.ownsRow_nil _ _ _ _, HROW.out, fun j hj => absurd hj (by omega), fun j hj => absurd hj (by omega), fun i j hi => absurd hi (by omega), by simp [Value.ownBlock], Nat.le_refl _, B1.out.size, B1.out.alloc B1.out.size _⟩
  have HP0 := Lib.hid P0
  clear P0
  go_wp2_with fail
  go_loopw [10, 11] (fun l i wr => ∃ (k : Nat) (G : Nat → Option (Nat × Nat)) (Q : Nat → List Int) (S : Nat → Value), k ≤ 3 ∧ i = .int .i64 (k : Int) ∧ Picks w wr w1.heap.size w1.heap.size k G Q S l) (fun _ i _ => 3 - (intOf i).toNat)
  case atStart => exact ⟨0, _, _, _, by omega, rfl, HP0.out⟩
  case round =>
    obtain ⟨k, G, Q, S, hk, rfl, hP⟩ := hrel
    have HP := Lib.hid hP
    clear hP
    by_cases hlt : k < 3
    · obtain ⟨ck, fk⟩ := HP.out.cell k hlt
      obtain ⟨s, hs⟩ : ∃ s, s = S k := ⟨_, rfl⟩
      rw [← hs] at ck
      obtain ⟨hrk, hqk⟩ := HP.out.row k hlt
      have hrw := hrk.below HP.out.below (Nat.le_refl _)
      rw [← hs] at hrw
      have HF := Lib.hid (pfilled_any wr 20 (by omega) (by omega) s _ (Q k) hrw (by omega))
      have ht20 : (Q k).take 20 = Q k := List.take_of_length_le hqk
      have HT20 := Lib.hid ht20
      have HS := Lib.hid hs
      clear hrk hrw hs ht20
      go_wp2_with fail
      refine HF.out.mono ?_; rintro e w2 ⟨g, h, rfl, p2, b2⟩
      rw [HT20.out] at p2
      have HP2 := Lib.hid (HP.out.keep b2)
      have HPP := Lib.hid p2
      have hszA := HP.out.below.size
      obtain ⟨ck2, fk2⟩ := HP2.out.cell k hlt
      have hbase2 : w1.heap.size ≤ wr.heap.size := Nat.le_trans HP.out.bA (Nat.le_of_lt HP.out.alt)
      have hbs2 : w1.heap.size ≤ w2.heap.size := Nat.le_trans hbase2 b2.size
      have hnew : ∀ i, u10.ownBlock = some i → i < wr.heap.size := fun i e => (HP.out.lst.lt i e).2
      have hnewA := HP.out.alt
      have HSEP : Hid (∀ j, j < k → ∀ g' h', G j = some (g', h') → g' < wr.heap.size ∧ h' < wr.heap.size) := Lib.hid (fun j hj g' h' hG => (HP.out.port j hj g' h' hG).1.lt)
      have HNEW := Lib.hid hnew
      clear p2 b2 hnew ck fk
      obtain ⟨t, ht⟩ : ∃ t, x / 2 ^ k % 2 = t := ⟨_, rfl⟩
      by_cases h1 : t = 1
      · have q1 : (t == 1) = true := by simp [h1]
        clear h1
        have PS := Lib.hid (HP2.out.set k hlt (.slice none 0 0) [] (Nat.le_refl _) (Rd.nil _ _) (by simp))
        have HOWN := Lib.hid (PS.out.lst.alloc (.cells [ptrV none].toArray 26))
        have hsz : (w2.setCell ⟨w1.heap.size, k, none⟩ (.slice none 0 0)).heap.size = w2.heap.size := by simp [World.setCell]
        have hrn := rd_new (w2.setCell ⟨w1.heap.size, k, none⟩ (.slice none 0 0)) [ptrV none] 26 1 1 rfl (by simp [maxLen])
        rw [hsz] at hrn
        have HRN := Lib.hid hrn
        have HSZ := Lib.hid hsz
        clear hrn hsz
        go_wp2_with (at_builtin; refine app_own2 _ elemP rfl _ _ rfl w1.heap.size u10 k _ rfl HOWN.out _ 1 [ptrV none] rfl HRN.out (by intro u hu; simp at hu; rw [hu]; rfl) (by simp only [maxLen]; omega) (by omega) (by simp; omega) ?_; intro v' w4 ho4 hg4 hfr4)
        go_roundw
        case rel =>
          refine ⟨k + 1, _, _, _, by omega, by go_num, PS.out.add none (fun _ => by simp) (fun g h e => by cases e) ho4 ((Fr.refl (fun i => u10.ownBlock = some i) _).alloc _ |>.trans (Fr.of_grown (F := fun i => u10.ownBlock = some i) hg4 (fun i e => e)) (fun _ _ e => e)) ?_⟩
          intro i e
          rcases hfr4 i e with h5 | h5
          · exact .inl h5
          · simp at h5; rw [HSZ.out]; exact .inr (by omega)
        case measure => simp [intOf]; omega
      · have q1 : (t == 1) = false := by simp [h1]
        clear h1
        have HOWN := Lib.hid (HP2.out.lst.alloc (.cells [ptrV (some (g, h))].toArray 26))
        go_wp2_with (at_builtin; refine app_own2 _ elemP rfl _ _ rfl w1.heap.size u10 k _ rfl HOWN.out _ 1 [ptrV (some (g, h))] rfl (rd_new _ [ptrV (some (g, h))] _ _ _ (by simp) (by simp [maxLen])) (by intro u hu; simp at hu; rw [hu]; rfl) (by simp only [maxLen]; omega) (by omega) (by simp; omega) ?_; intro v' w4 ho4 hg4 hfr4)
        go_roundw
        case rel =>
          refine ⟨k + 1, _, _, _, by omega, by go_num, HP2.out.add (some (g, h)) (fun e => by cases e) ?_ ho4 ((Fr.refl (fun i => u10.ownBlock = some i) _).alloc _ |>.trans (Fr.of_grown (F := fun i => u10.ownBlock = some i) hg4 (fun i e => e)) (fun _ _ e => e)) ?_⟩
          · intro g' h' e
            cases e
            have hb := HPP.out.base
            refine ⟨HPP.out.mono hbase2, by omega, by omega, fun e => by have := HNEW.out _ e; omega, fun e => by have := HNEW.out _ e; omega, fun j hj g' h' hG => ?_⟩
            have := HSEP.out j hj g' h' hG
            omega
          · intro i e
            rcases hfr4 i e with h5 | h5
            · exact .inl h5
            · simp at h5; exact .inr (by omega)
        case measure => simp [intOf]; omega
    · obtain rfl : k = 3 := by omega
      obtain ⟨lb, lc, rfl, lb1, lb2, lc1, lc2⟩ := owns_some HP.out.lst (by omega)
      obtain ⟨ck0, fk0⟩ := HP.out.cell 0 (by omega)
      obtain ⟨ck1, fk1⟩ := HP.out.cell 1 (by omega)
      obtain ⟨ck2, fk2⟩ := HP.out.cell 2 (by omega)
      obtain ⟨sa0, sc0, hs0, _, _, _⟩ := rd_shape (HP.out.row 0 (by omega)).1
      obtain ⟨sa1, sc1, hs1, _, _, _⟩ := rd_shape (HP.out.row 1 (by omega)).1
      obtain ⟨sa2, sc2, hs2, _, _, _⟩ := rd_shape (HP.out.row 2 (by omega)).1
      have hq0 := (HP.out.row 0 (by omega)).2
      have hq1 := (HP.out.row 1 (by omega)).2
      have hq2 := (HP.out.row 2 (by omega)).2
      rw [hs0] at ck0
      rw [hs1] at ck1
      rw [hs2] at ck2
      clear hs0 hs1 hs2 hlt hk
      go_upto_region 15 with fail
      go_cut [13] (fun n wx => n = .int .i64 (((Q 0).length + (Q 1).length + (Q 2).length : Nat) : Int) ∧ wx = wr)
      case first =>
        go_wp2_with fail
        go_meet
        case rel => exact ⟨by congr 1, rfl⟩
      case rest =>
        obtain ⟨rfl, hwc⟩ := hcut
        rw [hwc]
        clear hwc ck0 ck1 ck2
        go_wp2_with fail
        go_loopw [13] (fun n wr => ∃ (Q : Nat → List Int) (S : Nat → Value), n = .int .i64 (((Q 0).length + (Q 1).length + (Q 2).length : Nat) : Int) ∧ Picks w wr w1.heap.size w1.heap.size 3 G Q S (.slice (some ⟨lb, 0, none⟩) 3 lc)) (fun n _ => (intOf n).toNat + 1)
        case atStart => exact ⟨Q, S, rfl, HP.out⟩
        case round =>
          obtain ⟨Q, S, rfl, hP⟩ := hrel
          have HP := Lib.hid hP
          clear hP
          obtain ⟨T, hT⟩ : ∃ T, T = (Q 0).length + (Q 1).length + (Q 2).length := ⟨_, rfl⟩
          have hT60 : T ≤ 60 := by
            have h0 := (HP.out.row 0 (by omega)).2
            have h1 := (HP.out.row 1 (by omega)).2
            have h2 := (HP.out.row 2 (by omega)).2
            omega
          rw [← hT]
          have HT := Lib.hid hT
          clear hT
          have htot : (0 : Int) ≤ (T : Int) := by omega
          rcases first_of Q with hall | ⟨j, hj, hbef, hne⟩
          · have HPK := Lib.hid (pick_none wr w1.heap.size 20 lb 0 3 lc _ G Q ⟨lc1, lc2⟩ HP.out.spots (fun i hi => .inr (hall i hi)))
            have HALL := Lib.hid hall
            clear hall
            go_wp2_with fail
            refine HPK.out.mono ?_; rintro e w4 ⟨rfl, rfl⟩
            go_wp2_with fail
            go_loop [17] (fun i => ∃ m : Nat, m ≤ 3 ∧ i = .int .i64 (m : Int)) (fun i => 3 - (intOf i).toNat)
            case atStart => exact ⟨0, by omega, rfl⟩
            case round =>
              obtain ⟨m, hm, rfl⟩ := hrel
              by_cases hm3 : m < 3
              · obtain ⟨cm, fm⟩ := HP.out.cell m hm3
                obtain ⟨sa, sc, hsm, _, _, _⟩ := rd_shape (HP.out.row m hm3).1
                rw [hsm, HALL.out m hm3] at cm
                simp only [List.length_nil] at cm
                clear hsm
                go_wp2_with fail
                go_round
                case rel => exact ⟨m + 1, by omega, by go_num⟩
                case measure => simp [intOf]; omega
              · obtain rfl : m = 3 := by omega
                go_wp2_with fail
                go_ret
                exact ⟨rfl, HP.out.below⟩
          · obtain ⟨c, q, hQc⟩ : ∃ c q, Q j = c :: q := by
              cases hq : Q j with
              | nil => exact absurd hq hne
              | cons c q => exact ⟨c, q, rfl⟩
            obtain ⟨g, h, hG⟩ : ∃ g h, G j = some (g, h) := by
              cases hg : G j with
              | none => exact absurd (HP.out.gone j hj hg) hne
              | some p => exact ⟨p.1, p.2, rfl⟩
            have HPK := Lib.hid (pick_some wr w1.heap.size 20 lb 0 3 lc _ G Q ⟨lc1, lc2⟩ HP.out.spots j hj (fun i hi => .inr (hbef i hi)) g h hG c q hQc)
            have HQC := Lib.hid hQc
            have HG := Lib.hid hG
            have HBEF := Lib.hid hbef
            have hAh := (HP.out.port j hj g h hG).2.2.1
            obtain ⟨hbp1, hbp2⟩ := (HP.out.port j hj g h hG).1.base
            have HAH := Lib.hid hAh
            clear hQc hG hbef hne hAh
            go_wp2_with fail
            refine HPK.out.mono ?_; rintro e w4 ⟨rfl, p4, f4⟩
            have HP4 := Lib.hid p4
            have HF4 := Lib.hid f4
            have hb4 : Below w.heap.size w w4 := HP.out.below.trans (f4.below HP.out.below.size fun i hi e => by have := HP.out.base; omega)
            have HB4 := Lib.hid hb4
            have cells : ∀ m, m < 3 → w4.cell? ⟨w1.heap.size, m, none⟩ = some (S m) ∧ w4.frozen? ⟨w1.heap.size, m, none⟩ = false := fun m hm => by
              have hbk := f4.block w1.heap.size HP.out.alt HAH.out
              obtain ⟨h1, h2⟩ := HP.out.cell m hm
              exact ⟨by rw [World.cell?_of_block (a := ⟨w1.heap.size, m, none⟩) hbk]; exact h1, by rw [World.frozen?_of_block (a := ⟨w1.heap.size, m, none⟩) hbk]; exact h2⟩
            have HCELLS := Lib.hid cells
            clear p4 f4 hb4 cells
            go_wp2_with fail
            go_loop [17] (fun i => ∃ m : Nat, m ≤ j ∧ i = .int .i64 (m : Int)) (fun i => 3 - (intOf i).toNat)
            case atStart => exact ⟨0, by omega, rfl⟩
            case round =>
              obtain ⟨m, hm, rfl⟩ := hrel
              by_cases hmj : m < j
              · obtain ⟨cm, fm⟩ := HCELLS.out m (by omega)
                obtain ⟨sa, sc, hsm, _, _, _⟩ := rd_shape (HP.out.row m (by omega)).1
                rw [hsm, HBEF.out m hmj] at cm
                simp only [List.length_nil] at cm
                clear hsm
                go_wp2_with fail
                go_round
                case rel => exact ⟨m + 1, by omega, by go_num⟩
                case measure => simp [intOf]; omega
              obtain rfl : m = j := by omega
              clear hmj hm
              obtain ⟨cm, fm⟩ := HCELLS.out m hj
              obtain ⟨sa, sc, hsm, hsc0, hsc1, _⟩ := rd_shape (HP.out.row m hj).1
              have hrow := (HP.out.row m hj).1
              have hql := (HP.out.row m hj).2
              rw [HQC.out] at hsm hrow hql hsc0
              have hlq : (c :: q).length = q.length + 1 := rfl
              rw [hlq] at hsm hrow hql hsc0
              rw [hsm] at cm hrow
              obtain ⟨sb, so, rfl, hsc⟩ := Rd_at hrow (by omega)
              have hx4 : w4.cell? ⟨sb, so, none⟩ = some (.int .u8 c) := by
                obtain ⟨b', o', e', hc'⟩ := Rd_at (hrow.below HB4.out (Nat.le_refl _)) (by omega)
                cases e'
                have := hc' 0 (.int .u8 c) (by simp [byt])
                rwa [Nat.add_zero] at this
              unfold maxLen at hsc1
              have HSC := Lib.hid hsc
              have hz : 0 < ((q.length : Int) + 1) := by omega
              have hz1 : (1 : Int) ≤ (q.length : Int) + 1 := by omega
              have hz2 : (((q.length : Int) + 1) == 0) = false := by simp; omega
              have hmn : ((m : Int) == 3) = false := by simp; omega
              have hm3 : (m : Int) < 3 := by omega
              have hsum : T ≥ 1 := by
                have e := HQC.out
                rw [HT.out]
                rcases (by omega : m = 0 ∨ m = 1 ∨ m = 2) with rfl | rfl | rfl <;> rw [e] <;> simp <;> omega
              clear hsc hrow hsm hlq
              by_cases hcap1 : sc = 1
              · subst hcap1
                have hq00 : q.length = 0 := by omega
                have hq0 : q = [] := List.eq_nil_of_length_eq_zero hq00
                have hsn : Rd w 1 (.slice (some ⟨sb, so, none⟩) 0 0) q.length (byt q) := by rw [hq0]; exact ⟨rfl, _, _, rfl, Nat.le_refl _, by simp [maxLen], fun _ => rfl, fun h => absurd h (by simp)⟩
                have HPN := Lib.hid (HP.out.popped m hj g h HG.out c q HQC.out HP4.out HF4.out _ hsn)
                clear hsn hq0
                go_wp2_with fail
                go_roundw
                case rel =>
                  refine ⟨fun i => if i = m then q else Q i, ?_, fun i => if i = m then Value.slice (some ⟨sb, so, none⟩) 0 0 else S i, HPN.out⟩
                  have e := sum_popped Q m hj c q HQC.out
                  have hh := HT.out
                  omega
                case measure => simp [intOf]; omega
              · have hsn : Rd w 1 (.slice (some ⟨sb, so + 1, none⟩) q.length (sc - 1)) q.length (byt q) := by
                  refine ⟨by simp [byt], _, _, rfl, by omega, by simp only [maxLen]; omega, by simp, fun hn => ⟨sb, so + 1, rfl, fun i u hu => ?_⟩⟩
                  rw [Nat.add_assoc, Nat.add_comm 1 i]
                  exact HSC.out (i + 1) u (by simpa [byt] using hu)
                have HPN := Lib.hid (HP.out.popped m hj g h HG.out c q HQC.out HP4.out HF4.out _ hsn)
                clear hsn
                go_wp2_with fail
                go_roundw
                case rel =>
                  refine ⟨fun i => if i = m then q else Q i, ?_, fun i => if i = m then Value.slice (some ⟨sb, so + 1, none⟩) q.length (sc - 1) else S i, HPN.out⟩
                  have e := sum_popped Q m hj c q HQC.out
                  have hh := HT.out
                  omega
                case measure => simp [intOf]; omega
theorem portPicks_law (a0 : Option Addr) (len0 cap0 : Nat) (z0 : List Int) (a1 : Option Addr) (len1 cap1 : Nat) (z1 : List Int) (a2 : Option Addr) (len2 cap2 : Nat) (z2 : List Int) (a3 : Int) (w : World) (w0 : RowOf .u8 w a0 len0 cap0 z0) (w1 : RowOf .u8 w a1 len1 cap1 z1) (w2 : RowOf .u8 w a2 len2 cap2 z2) (w3 : (Lit.int .u8 a3).wf = true) :
    Calls Try.prog 3 #[.slice a0 len0 cap0, .slice a1 len1 cap1, .slice a2 len2 cap2, .int .u8 a3] w fun e w' => e = .returned (.bool true) ∧ Below w.heap.size w w' :=
  portPicks_walk a0 len0 cap0 (z0.take len0) a1 len1 cap1 (z1.take len1) a2 len2 cap2 (z2.take len2) a3 (rng_u8 w3).1 (rng_u8 w3).2 w w0.rd w1.rd w2.rd w0.bounds w1.bounds w2.bounds
end Go.Proofs.Ytjgndjcpdedkiaa
