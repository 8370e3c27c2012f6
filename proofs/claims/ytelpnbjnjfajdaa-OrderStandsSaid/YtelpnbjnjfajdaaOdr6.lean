/- Order: the reference's visit. -/
import Derived.Test.YtelpnbjnjfajdaaOdr5
import Derived.Test.YtelpnbjnjfajdaaOrd
namespace Go.Proofs.Ytelpnbjnjfajdaa
open Go.RowKit Go.Waf Go.Maps
set_option maxRecDepth 100000
set_option linter.unusedVariables false
set_option linter.unusedSimpArgs false

def intsA (n : Nat) (f : Nat → Int) : Array Value := ((List.range n).map fun j => Value.int .i64 (f j)).toArray
theorem intsA_get (n : Nat) (f : Nat → Int) (j : Nat) (h : j < n) : (intsA n f)[j]? = some (.int .i64 (f j)) := by simp [intsA, h]
theorem intsA_set (n : Nat) (f : Nat → Int) (i : Nat) (x : Int) : (intsA n f).setIfInBounds i (.int .i64 x) = intsA n (fun j => if j = i then x else f j) := by
  apply Array.ext
  · simp [intsA]
  · intro j h1 h2
    by_cases h : i = j
    · subst h; simp [intsA]
    · have h' : ¬ j = i := fun e => h e.symm
      simp [intsA, h, h']
/-- What the reference keeps of a module: 2 there, 1 under way. -/
def stI (s : St) (j : Nat) : Int := if j ∈ s.out then 2 else if s.on j = true then 1 else 0
theorem stI_mark {s : St} {i : Nat} (h : i ∉ s.out) : (fun j => if j = i then 1 else stI s j) = stI (s.mark i) := by
  funext j
  by_cases hj : j = i
  · subst hj; simp [stI, St.mark, upd, h]
  · have e : (s.mark i).on j = s.on j := by simp [St.mark, upd, hj]
    unfold stI
    rw [if_neg hj, e]
    rfl
theorem stI_done {s : St} {i : Nat} : (fun j => if j = i then 2 else stI s j) = stI (s.done i) := by
  funext j
  by_cases hj : j = i
  · subst hj; simp [stI, St.done]
  · by_cases h1 : j ∈ s.out
    · simp [stI, St.done, hj, h1]
    · have e : j ∉ (s.done i).out := by simp [St.done, hj, h1]
      rw [if_neg hj, stI, if_neg h1, stI, if_neg e]; rfl
structure RW (w0 w : World) (q ob : Nat) (a : Option Addr) (n cap : Nat) (M : Nat → Md) (ov : Value) (s : St) : Prop where
  blk : w.heap[q]? = some (.cells #[.slice a n cap, .slice (some ⟨ob, 0, none⟩) n n, ov] 60 (0, 0))
  on : w.heap[ob]? = some (.cells (intsA n (stI s)) 3 (0, 0))
  row : w.ownsRow w0.heap.size 3 1 ov s.out.length (nats s.out)
  bq : w0.heap.size ≤ q
  bo : w0.heap.size ≤ ob
  qo : q ≠ ob
  tq : ov.ownBlock ≠ some q
  to : ov.ownBlock ≠ some ob
  room : s.out.length + free s.on n ≤ n
  old : Below w0.heap.size w0 w
theorem RW.mods {w0 w : World} {q ob n cap : Nat} {a : Option Addr} {M : Nat → Md} {ov : Value} {s : St} (h : RW w0 w q ob a n cap M ov s) (hp : ModsAt w0 a n cap M) : ModsAt w a n cap M := hp.below h.old (Nat.le_refl _)
theorem RW.lt {w0 w : World} {q ob n cap : Nat} {a : Option Addr} {M : Nat → Md} {ov : Value} {s : St} (h : RW w0 w q ob a n cap M ov s) : q < w.heap.size ∧ ob < w.heap.size :=
  ⟨(Array.getElem?_eq_some_iff.1 h.blk).1, (Array.getElem?_eq_some_iff.1 h.on).1⟩
theorem RW.below {w0 w w' : World} {q ob n cap B : Nat} {a : Option Addr} {M : Nat → Md} {ov : Value} {s : St} (h : RW w0 w q ob a n cap M ov s) (hb : Below B w w') (hB : w.heap.size ≤ B) : RW w0 w' q ob a n cap M ov s := by
  obtain ⟨l1, l3⟩ := h.lt
  have hs := h.old.size
  refine ⟨by rw [hb.block q (by omega)]; exact h.blk, by rw [hb.block ob (by omega)]; exact h.on, ?_, h.bq, h.bo, h.qo, h.tq, h.to, h.room, h.old.trans (hb.mono (by omega))⟩
  exact (Fr.of_below hb).owns h.row fun k hk hf => by have := h.row.lt k hk; omega
theorem RW.mark {w0 w : World} {q ob n cap : Nat} {a : Option Addr} {M : Nat → Md} {ov : Value} {s : St} (h : RW w0 w q ob a n cap M ov s) (i : Nat) (hi : i < n) (ho : i ∉ s.out) (hon : s.on i = false) :
    RW w0 (w.setCell ⟨ob, i, none⟩ (.int .i64 1)) q ob a n cap M ov (s.mark i) := by
  have hf := free_upd s.on i hon n hi
  have hr := h.room
  refine ⟨by rw [Below.heap_setCell w _ _ q h.qo]; exact h.blk, by rw [heap_setCell_same w ob i _ _ _ h.on, intsA_set, stI_mark ho], owns_set_other h.row _ _ h.to, h.bq, h.bo, h.qo, h.tq, h.to, ?_, h.old.setCell h.bo _⟩
  simp only [St.mark]; omega

section
variable {w0 w : World} {q ob n cap : Nat} {a : Option Addr} {M : Nat → Md} {ov : Value} {s : St}
def RPost (w0 : World) (q ob : Nat) (a : Option Addr) (n cap : Nat) (M : Nat → Md) (w : World) (ov : Value) (r : Bool × St) (e : Ending) (w' : World) : Prop :=
  ∃ ov', e = .returned (.bool r.1) ∧ RW w0 w' q ob a n cap M ov' r.2 ∧ Fr (FF q ob ov) w w' ∧ ∀ k, ov'.ownBlock = some k → ov.ownBlock = some k ∨ w.heap.size ≤ k
theorem RW.done {wr w3 : World} {v3 : Value} (hW : RW w0 wr q ob a n cap M ov s) (o : Obj) (i : Nat) (hr : s.out.length + 1 + free s.on n ≤ n) (ho : w3.ownsRow w0.heap.size 3 1 v3 (s.out.length + 1) (nats s.out ++ nats [i])) (hg : ((wr.setCell ⟨ob, i, none⟩ (.int .i64 2)).alloc o).grownBy w3 ov.ownBlock)
    (hl : ∀ k, v3.ownBlock = some k → ov.ownBlock = some k ∨ ((wr.setCell ⟨ob, i, none⟩ (.int .i64 2)).alloc o).heap.size ≤ k) : RW w0 (w3.setCell ⟨q, 2, none⟩ v3) q ob a n cap M v3 (s.done i) := by
  obtain ⟨l1, l3⟩ := hW.lt
  have hs : ((wr.setCell ⟨ob, i, none⟩ (.int .i64 2)).alloc o).heap.size = wr.heap.size + 1 := by simp
  have t1 : v3.ownBlock ≠ some q := fun h => by rcases hl q h with h | h; exact hW.tq h; omega
  have t3 : v3.ownBlock ≠ some ob := fun h => by rcases hl ob h with h | h; exact hW.to h; omega
  have b0 : (wr.setCell ⟨ob, i, none⟩ (.int .i64 2)).heap[q]? = some (.cells #[.slice a n cap, .slice (some ⟨ob, 0, none⟩) n n, ov] 60 (0, 0)) := by rw [Below.heap_setCell wr _ _ q hW.qo]; exact hW.blk
  have b0' : (wr.setCell ⟨ob, i, none⟩ (.int .i64 2)).heap[ob]? = some (.cells (intsA n (stI (s.done i))) 3 (0, 0)) := by rw [heap_setCell_same wr ob i _ _ _ hW.on, intsA_set, stI_done]
  have b1 := blk_grown (blk_alloc b0 o) hg hW.tq
  have b2 := blk_grown (blk_alloc b0' o) hg hW.to
  have hb0 : Below w0.heap.size w0 w3 := by
    have hb := hW.old.setCell (p := ⟨ob, i, none⟩) hW.bo (.int .i64 2)
    have hx := hb.alloc hb.size o
    refine ⟨hg.os.trans hx.os, hg.tape.trans hx.tape, hg.output.trans hx.output, Nat.le_trans hx.size hg.size, fun j hj => (hg.block j (by have := hb.size; simp at this ⊢; omega) fun h => ?_).trans (hx.block j hj)⟩
    have := (hW.row.lt j h.symm).1
    omega
  refine ⟨by rw [heap_setCell_same w3 q 2 _ _ _ b1]; rfl, by rw [Below.heap_setCell w3 _ _ ob (fun h => hW.qo h.symm)]; exact b2, ?_, hW.bq, hW.bo, hW.qo, t1, t3, ?_, hb0.setCell hW.bq _⟩
  · have := owns_set_other ho ⟨q, 2, none⟩ v3 t1
    rw [← nats_append] at this
    have e : (s.done i).out.length = s.out.length + 1 := by simp [St.done]
    rw [e]; exact this
  · simp only [St.done, List.length_append, List.length_cons, List.length_nil]; omega

set_option maxHeartbeats 3200000 in
theorem rvisit_there (hn : n ≤ 1000) (hW : RW w0 w q ob a n cap M ov s) (i : Nat) (hi : i < n) (h : i ∈ s.out ∨ s.on i = true) :
    Calls Try.prog 15 #[.pointer (some ⟨q, 0, none⟩), .int .i64 (i : Int)] w fun e w' => e = .returned (.bool (decide (i ∈ s.out))) ∧ w' = w := by
  have c1 : w.cell? ⟨q, 1, none⟩ = some (.slice (some ⟨ob, 0, none⟩) n n) := by rw [cell_of_row w q 1 _ _ _ hW.blk]; rfl
  obtain ⟨x, hx⟩ : ∃ x, x = stI s i := ⟨_, rfl⟩
  have co : w.cell? ⟨ob, i, none⟩ = some (.int .i64 x) := by rw [cell_of_row w ob i _ _ _ hW.on, intsA_get _ _ _ hi, hx]
  by_cases ho : i ∈ s.out
  · have e : x = 2 := by rw [hx, stI, if_pos ho]
    have hd : decide (i ∈ s.out) = true := decide_eq_true ho
    subst e
    rw [hd]
    clear hW h hx ho hd
    go_enter Try.func15, Try.ntmps15
    go_wp2_with fail
    all_goals (try go_ret)
    all_goals exact ⟨rfl, rfl⟩
  · have e : x = 1 := by rw [hx, stI, if_neg ho, if_pos (h.resolve_left ho)]
    have hd : decide (i ∈ s.out) = false := decide_eq_false ho
    subst e
    rw [hd]
    clear hW h hx ho hd
    go_enter Try.func15, Try.ntmps15
    go_wp2_with fail
    all_goals (try go_ret)
    all_goals exact ⟨rfl, rfl⟩

set_option maxHeartbeats 6400000 in
theorem rvisit_go (f : Nat) (hn : n ≤ 1000) (hp : ModsAt w0 a n cap M) (hA : All M n)
    (ih : ∀ (w : World) (ov : Value) (s : St) (i : Nat), RW w0 w q ob a n cap M ov s → i < n → free s.on n ≤ f → Calls Try.prog 15 #[.pointer (some ⟨q, 0, none⟩), .int .i64 (i : Int)] w (RPost w0 q ob a n cap M w ov (vis M n f s i)))
    (hW : RW w0 w q ob a n cap M ov s) (i : Nat) (hi : i < n) (hf : free s.on n ≤ f + 1) (h : i ∉ s.out) (hon : s.on i = false) :
    Calls Try.prog 15 #[.pointer (some ⟨q, 0, none⟩), .int .i64 (i : Int)] w (RPost w0 q ob a n cap M w ov (vis M n (f + 1) s i)) := by
  have hvis : vis M n (f + 1) s i = if (visL (vis M n f) (idxN M n) (needsOf (M i).imps) (s.mark i)).1 = true then (true, (visL (vis M n f) (idxN M n) (needsOf (M i).imps) (s.mark i)).2.done i)
    else (false, (visL (vis M n f) (idxN M n) (needsOf (M i).imps) (s.mark i)).2) := by
    rw [vis, if_neg h, if_neg (by rw [hon]; simp)]
  obtain ⟨l1, l3⟩ := hW.lt
  have hfu := free_upd s.on i hon n hi
  have hpw := hW.mods hp
  have hle := hpw.le
  have hcap := hpw.cap63
  obtain ⟨ab, ao, rfl, hc⟩ := hpw.cells (by omega)
  obtain ⟨iv, hr, d0, d1, d2, d3, d4, d5, d6, d7⟩ := hc i hi
  have hab : ab < w0.heap.size := by
    obtain ⟨ab', ao', hab', hc'⟩ := hp.cells (by omega)
    cases hab'
    obtain ⟨_, _, e0, _⟩ := hc' i hi
    exact World.block_lt_of_cell? w0 _ e0
  have hsm := hp.small i hi
  have hin := hp.inames i hi
  obtain ⟨oa, oc, rfl, o1, o2, o3⟩ := owns_shape hW.row
  have c3 : w.cell? ⟨q, 2, none⟩ = some (.slice oa s.out.length oc) := by rw [cell_of_row w q 2 _ _ _ hW.blk]; rfl
  have c2 : w.cell? ⟨q, 1, none⟩ = some (.slice (some ⟨ob, 0, none⟩) n n) := by rw [cell_of_row w q 1 _ _ _ hW.blk]; rfl
  have c0 : w.cell? ⟨q, 0, none⟩ = some (.slice (some ⟨ab, ao, none⟩) n cap) := by rw [cell_of_row w q 0 _ _ _ hW.blk]; rfl
  have co : w.cell? ⟨ob, i, none⟩ = some (.int .i64 0) := by rw [cell_of_row w ob i _ _ _ hW.on, intsA_get _ _ _ hi, stI, if_neg h, if_neg (by rw [hon]; simp)]
  have fo := frozen_of_row w ob i _ _ hW.on
  have hW1 := hW.mark i hi h hon
  have hpw1 := hW1.mods hp
  obtain ⟨L, hL⟩ : ∃ L, L = needsOf (M i).imps := ⟨_, rfl⟩
  have hLs : ∀ x ∈ L, x.size ≤ 1000 ∧ 0 ≤ atN M n x ∧ idxN M n x < n := fun x hx => by
    rw [hL] at hx
    exact ⟨hin x (List.mem_filter.1 hx).1, hA i hi x hx, hA.idx hi x hx⟩
  have hLl : L.length ≤ 1000 := by rw [hL]; have := needsOf_le (M i).imps; omega
  have hqab : q ≠ ab := by have := hW.bq; omega
  have hoab : ob ≠ ab := by have := hW.bo; omega
  have hwf := fun o => World.cell?_setCell_far w ⟨ob, i, none⟩ ⟨ab, o, none⟩ (.int .i64 1) hoab
  have t0 := (hwf _).trans d0
  have t1 := (hwf _).trans d1
  have t2 := (hwf _).trans d2
  have t3 := (hwf _).trans d3
  have t4 := (hwf _).trans d4
  have t5 := (hwf _).trans d5
  have t6 := (hwf _).trans d6
  have t7 := (hwf _).trans d7
  have tq : (w.setCell ⟨ob, i, none⟩ (.int .i64 1)).cell? ⟨q, 0, none⟩ = some (.slice (some ⟨ab, ao, none⟩) n cap) := by
    rw [World.cell?_setCell_far w ⟨ob, i, none⟩ ⟨q, 0, none⟩ _ (fun e => hW.qo e.symm)]; exact c0
  clear hwf
  have hN : Calls Try.prog 12 #[.agg #[.string (M i).name, iv, .slice none 0 0, .slice none 0 0, .slice none 0 0, .slice none 0 0, .slice none 0 0, .slice none 0 0]] (w.setCell ⟨ob, i, none⟩ (.int .i64 1)) (OwnRet w.heap.size 9 1 L.length (strs L) (w.setCell ⟨ob, i, none⟩ (.int .i64 1))) := by
    have := needs_ref (w.setCell ⟨ob, i, none⟩ (.int .i64 1)) (M i).name iv (M i).imps hsm (by
      obtain ⟨ab', ao', hab', hc'⟩ := hpw1.cells (by omega)
      cases hab'
      obtain ⟨iv', hr', e0, e1, _⟩ := hc' i hi
      rw [World.cell?_setCell_far w ⟨ob, i, none⟩ ⟨ab, ao + i * 8 + 1, none⟩ _ hoab] at e1
      rw [d1] at e1; cases e1
      exact hr')
    rw [← hL] at this
    have e : (w.setCell ⟨ob, i, none⟩ (.int .i64 1)).heap.size = w.heap.size := by simp
    rw [e] at this
    exact this
  rw [← hL] at hvis
  have hsf : free (s.mark i).on n ≤ f := by simp only [St.mark]; omega
  have hM0 : ∀ k s', visL (vis M n f) (idxN M n) (L.take k) (s.mark i) = (true, s') → Meas n (s.mark i) s' := fun k s' hk => by
    have := visL_meas (idx := idxN M n) (vis_meas hA f) (L.take k) (s.mark i) (fun x hx => (hLs x (List.mem_of_mem_take hx)).2.2)
    rw [hk] at this; exact this
  have hrm : (s.mark i).out.length + free (s.mark i).on n + 1 ≤ n := by have := hW.room; simp only [St.mark]; omega
  have hloc : ∀ k, (Value.slice oa s.out.length oc).ownBlock = some k → w0.heap.size ≤ k ∧ k < w.heap.size := fun k hk => hW.row.lt k hk
  have hFm : Fr (FF q ob (.slice oa s.out.length oc)) w (w.setCell ⟨ob, i, none⟩ (.int .i64 1)) := (Fr.of_new (Below.refl _ w)).setCell (.inr (.inr (.inl rfl))) _
  have HN := Lib.hid hN
  have HW1 := Lib.hid hW1
  have HVIS := Lib.hid hvis
  have HLS := Lib.hid hLs
  have HM0 := Lib.hid hM0
  have HRM := Lib.hid hrm
  have HSF := Lib.hid hsf
  have HLOC := Lib.hid hloc
  have HFM := Lib.hid hFm
  have IH := Lib.hid ih
  have HL := Lib.hid hL
  have HP0 := Lib.hid hp
  clear hW hpw hc hr hp hin hW1 hpw1 hLs hN hvis hM0 hrm hsf hloc hFm ih hL hA hfu hf
  go_enter Try.func15, Try.ntmps15
  go_wp2_with fail
  refine HN.out.mono ?_
  rintro e w2 ⟨v, rfl, hrow, hb2⟩
  obtain ⟨va, vc, rfl, v1, v2, v3⟩ := owns_shape hrow
  unfold maxLen at v2
  have e1 : (w.setCell ⟨ob, i, none⟩ (.int .i64 1)).heap.size = w.heap.size := by simp
  have hb2' : Below (w.setCell ⟨ob, i, none⟩ (.int .i64 1)).heap.size (w.setCell ⟨ob, i, none⟩ (.int .i64 1)) w2 := by rw [e1]; exact hb2
  have HW2 := Lib.hid (HW1.out.below hb2' (Nat.le_refl _))
  have HROW := Lib.hid hrow
  have HF2 := Lib.hid (show Fr (FF q ob (.slice oa s.out.length oc)) w w2 from HFM.out.trans (Fr.of_new (F := fun _ => False) hb2') (fun _ _ h => h.elim))
  have hs2 : w.heap.size ≤ w2.heap.size := by have := hb2'.size; omega
  clear hrow hb2 hb2' e1
  go_wp2_with fail
  go_loopw [6] (fun z wr => ∃ (k : Nat) (s' : St) (ov' : Value), k ≤ L.length ∧ z = .int .i64 (k : Int) ∧ visL (vis M n f) (idxN M n) (L.take k) (s.mark i) = (true, s') ∧ RW w0 wr q ob (some ⟨ab, ao, none⟩) n cap M ov' s' ∧ Fr (FF q ob (.slice oa s.out.length oc)) w2 wr ∧ (∀ k, ov'.ownBlock = some k → (Value.slice oa s.out.length oc).ownBlock = some k ∨ w2.heap.size ≤ k)) (fun z _ => L.length - (intOf z).toNat)
  case atStart => exact ⟨0, s.mark i, _, by omega, rfl, rfl, HW2.out, Fr.of_new (Below.refl _ _), fun k hk => .inl hk⟩
  case round =>
    obtain ⟨k, s', ov', hk, rfl, hv, hWr, hFr, hlo⟩ := hrel
    by_cases hlt : k < L.length
    · obtain ⟨g, vc', hvv, hgb, hgs, _, _⟩ := owns_some HROW.out (by omega)
      cases hvv
      obtain ⟨x, hx⟩ : ∃ x, x = L.getD k ByteArray.empty := ⟨_, rfl⟩
      obtain ⟨hx1, hx2, hx3⟩ := HLS.out x (by rw [hx]; exact mem_getD hlt)
      obtain ⟨j, hj⟩ : ∃ j, j = idxN M n x := ⟨_, rfl⟩
      have hjx : atN M n x = (j : Int) := by rw [hj]; unfold idxN; omega
      have dg : wr.cell? ⟨g, k, none⟩ = some (.string x) := by
        rw [hFr.cell (p := ⟨g, k, none⟩) hgs (fun hF => by
          rcases hF with h | h | h
          · have : g = q := h; omega
          · have : g = ob := h; omega
          · have := (HLOC.out g h).2; omega), HROW.out.cellAt k (by omega), strs_get _ _ hlt, hx]
      have dq : wr.cell? ⟨q, 0, none⟩ = some (.slice (some ⟨ab, ao, none⟩) n cap) := by rw [cell_of_row wr q 0 _ _ _ hWr.blk]; rfl
      have hWd : RW w0 wr.drew q ob (some ⟨ab, ao, none⟩) n cap M ov' s' := hWr.below (below_drewN' (m := 1)) (Nat.le_refl _)
      have hdz : wr.drew.heap.size = wr.heap.size := rfl
      have hat := at_ref wr.drew (some ⟨ab, ao, none⟩) n cap M x (hWd.mods HP0.out)
      rw [hjx] at hat
      have HAT := Lib.hid hat
      have k0 : (0 : Int) ≤ (k : Int) := by omega
      have k1 : (k : Int) < (L.length : Int) := by omega
      have HS := Lib.hid (show (fun W => W.cell? ⟨g, k, none⟩ = some (.string x) ∧ W.cell? ⟨q, 0, none⟩ = some (.slice (some ⟨ab, ao, none⟩) n cap)) wr.drew from ⟨dg, dq⟩)
      have HM := HM0.out k s' hv
      have HI := Lib.hid (IH.out wr.drew ov' s' j hWd (by rw [hj]; exact hx3) (by have := HM.free; have := HSF.out; omega))
      have hnx := visL_next (step := vis M n f) (idx := idxN M n) (s := s.mark i) (s' := s') hlt hv
      have hst := visL_stop (step := vis M n f) (idx := idxN M n) (s := s.mark i) (s' := s') hlt hv
      rw [← hx, ← hj] at hnx hst
      have hws : w2.heap.size ≤ wr.heap.size := hFr.size
      have HNX := Lib.hid hnx
      have HST := Lib.hid hst
      have HFR := Lib.hid hFr
      have HLO := Lib.hid hlo
      clear hx hj hjx hat hWd HM hnx hst hFr hlo hv hWr
      cases hb : (vis M n f s' j).1
      · rw [hb] at HST
        have HB := Lib.hid hb
        clear hb
        go_wp2_with fail
        refine wp_region_till 10 (fun W => W.cell? ⟨g, k, none⟩ = some (.string x) ∧ W.cell? ⟨q, 0, none⟩ = some (.slice (some ⟨ab, ao, none⟩) n cap)) (by as_aux_lemma => kernel_rfl) ?_
        (refine wpAnyT_take (i := 0) (oi := ?_) (v := ?_) ?_ (by as_aux_lemma => kernel_rfl) (by as_aux_lemma => kernel_rfl) (by as_aux_lemma => kernel_rfl) (by as_aux_lemma => kernel_rfl) ?_ (Or.inl ⟨?_, ?_⟩) HS.out ?_; rotate_left 2; (focus (simp only [List.getElem?_toArray, List.getElem?_cons_succ, List.getElem?_cons_zero] <;> rfl)); (focus exact (fun _ _ _ h => h)); (focus rfl); (focus (intro w hSw; (try dsimp only at hSw); go_simp; try (with_reducible rfl))))
        (try simp only [Act.put, List.setIfInBounds_toArray, List.set_cons_zero, List.set_cons_succ])
        (refine wpAnyT_take (i := 1) (oi := ?_) (v := ?_) ?_ (by as_aux_lemma => kernel_rfl) (by as_aux_lemma => kernel_rfl) (by as_aux_lemma => kernel_rfl) (by as_aux_lemma => kernel_rfl) ?_ (Or.inl ⟨?_, ?_⟩) HS.out ?_; rotate_left 2; (focus (simp only [List.getElem?_toArray, List.getElem?_cons_succ, List.getElem?_cons_zero] <;> rfl)); (focus exact (fun _ _ _ h => h)); (focus rfl); (focus (intro w hSw; (try dsimp only at hSw); go_simp; try (with_reducible rfl))))
        (try simp only [Act.put, List.setIfInBounds_toArray, List.set_cons_zero, List.set_cons_succ])
        (refine wpAnyT_take (i := 2) (oi := ?_) (v := ?_) ?_ (by as_aux_lemma => kernel_rfl) (by as_aux_lemma => kernel_rfl) (by as_aux_lemma => kernel_rfl) (by as_aux_lemma => kernel_rfl) ?_ (Or.inl ⟨?_, ?_⟩) HS.out ?_; rotate_left 2; (focus (simp only [List.getElem?_toArray, List.getElem?_cons_succ, List.getElem?_cons_zero] <;> rfl)); (focus exact (fun _ _ _ h => h)); (focus rfl); (focus (intro w hSw; (try dsimp only at hSw); go_simp; try (with_reducible rfl))))
        (try simp only [Act.put, List.setIfInBounds_toArray, List.set_cons_zero, List.set_cons_succ])
        (refine wpAnyT_take (i := 3) (oi := ?_) (v := ?_) ?_ (by as_aux_lemma => kernel_rfl) (by as_aux_lemma => kernel_rfl) (by as_aux_lemma => kernel_rfl) (by as_aux_lemma => kernel_rfl) ?_ (Or.inl ⟨?_, ?_⟩) HS.out ?_; rotate_left 2; (focus (simp only [List.getElem?_toArray, List.getElem?_cons_succ, List.getElem?_cons_zero] <;> rfl)); (focus exact (fun _ _ _ h => h)); (focus rfl); (focus (intro w hSw; (try dsimp only at hSw); go_simp; try (with_reducible rfl))))
        (try simp only [Act.put, List.setIfInBounds_toArray, List.set_cons_zero, List.set_cons_succ])
        (refine wpAnyT_take (i := 4) (oi := ?_) (v := ?_) ?_ (by as_aux_lemma => kernel_rfl) (by as_aux_lemma => kernel_rfl) (by as_aux_lemma => kernel_rfl) (by as_aux_lemma => kernel_rfl) ?_ (Or.inl ⟨?_, ?_⟩) HS.out ?_; rotate_left 2; (focus (simp only [List.getElem?_toArray, List.getElem?_cons_succ, List.getElem?_cons_zero] <;> rfl)); (focus exact (fun _ _ _ h => h)); (focus rfl); (focus (intro w hSw; (try dsimp only at hSw); go_simp; try (with_reducible rfl))))
        (try simp only [Act.put, List.setIfInBounds_toArray, List.set_cons_zero, List.set_cons_succ])
        (refine wpAnyT_take (i := 5) (oi := ?_) (v := ?_) ?_ (by as_aux_lemma => kernel_rfl) (by as_aux_lemma => kernel_rfl) (by as_aux_lemma => kernel_rfl) (by as_aux_lemma => kernel_rfl) ?_ (Or.inl ⟨?_, ?_⟩) HS.out ?_; rotate_left 2; (focus (simp only [List.getElem?_toArray, List.getElem?_cons_succ, List.getElem?_cons_zero] <;> rfl)); (focus exact (fun _ _ _ h => h)); (focus rfl); (focus (intro w hSw; (try dsimp only at hSw); go_simp; try (with_reducible rfl))))
        (try simp only [Act.put, List.setIfInBounds_toArray, List.set_cons_zero, List.set_cons_succ])
        (refine wpAnyT_take (i := 6) (oi := ?_) (v := ?_) ?_ (by as_aux_lemma => kernel_rfl) (by as_aux_lemma => kernel_rfl) (by as_aux_lemma => kernel_rfl) (by as_aux_lemma => kernel_rfl) ?_ (Or.inl ⟨?_, ?_⟩) HS.out ?_; rotate_left 2; (focus (simp only [List.getElem?_toArray, List.getElem?_cons_succ, List.getElem?_cons_zero] <;> rfl)); (focus exact (fun _ _ _ h => h)); (focus rfl); (focus (intro w hSw; (try dsimp only at hSw); go_simp; try (with_reducible rfl))))
        (try simp only [Act.put, List.setIfInBounds_toArray, List.set_cons_zero, List.set_cons_succ])
        (refine wpAnyT_take (i := 7) (oi := ?_) (v := ?_) ?_ (by as_aux_lemma => kernel_rfl) (by as_aux_lemma => kernel_rfl) (by as_aux_lemma => kernel_rfl) (by as_aux_lemma => kernel_rfl) ?_ (Or.inl ⟨?_, ?_⟩) HS.out ?_; rotate_left 2; (focus (simp only [List.getElem?_toArray, List.getElem?_cons_succ, List.getElem?_cons_zero] <;> rfl)); (focus exact (fun _ _ _ h => h)); (focus rfl); (focus (intro w hSw; (try dsimp only at hSw); go_simp; try (with_reducible rfl))))
        (try simp only [Act.put, List.setIfInBounds_toArray, List.set_cons_zero, List.set_cons_succ])
        (refine wpAnyT_take (i := 8) (oi := ?_) (v := ?_) ?_ (by as_aux_lemma => kernel_rfl) (by as_aux_lemma => kernel_rfl) (by as_aux_lemma => kernel_rfl) (by as_aux_lemma => kernel_rfl) ?_ (Or.inl ⟨?_, ?_⟩) HS.out ?_; rotate_left 2; (focus (simp only [List.getElem?_toArray, List.getElem?_cons_succ, List.getElem?_cons_zero] <;> rfl)); (focus exact (fun _ _ _ h => h)); (focus rfl); (focus (intro w hSw; (try dsimp only at hSw); go_simp; try (with_reducible rfl))))
        (try simp only [Act.put, List.setIfInBounds_toArray, List.set_cons_zero, List.set_cons_succ])
        (refine wpAnyT_one (i := 9) (oi := ?_) ?_ (by as_aux_lemma => kernel_rfl) (fun K hK => ?_); rotate_left; (focus (simp only [List.getElem?_toArray, List.getElem?_cons_succ, List.getElem?_cons_zero] <;> rfl)))
        go_simp
        refine HAT.out.mono ?_
        rintro e wz ⟨rfl, rfl⟩
        refine hK.out _ _ HS.out ?_
        clear hK K
        (try simp only [Act.put, List.setIfInBounds_toArray, List.set_cons_zero, List.set_cons_succ])
        (refine wpAnyT_late (i := 10) (oi := ?_) ?_ (by as_aux_lemma => kernel_rfl) (by as_aux_lemma => kernel_rfl) (fun K hK => ?_); rotate_left; (focus (simp only [List.getElem?_toArray, List.getElem?_cons_succ, List.getElem?_cons_zero] <;> rfl)))
        go_simp
        refine HI.out.mono ?_
        rintro e w4 ⟨ov4, he, hp4, hf4, hl4⟩
        rw [HB.out] at he
        subst he
        have HR := Lib.hid (show RPost w0 q ob (some ⟨ab, ao, none⟩) n cap M w (.slice oa s.out.length oc) (vis M n (f + 1) s i) (.returned (.bool false)) w4 from ⟨ov4, by rw [HVIS.out, HST.out trivial]; rfl, by rw [HVIS.out, HST.out trivial]; exact hp4,
          (HF2.out.trans HFR.out.drew (fun _ _ h => h)).trans hf4 (fun k hk h => by
            rcases h with h | h | h
            · exact .inl h
            · exact .inr (.inl h)
            · rcases HLO.out k h with h | h
              · exact .inr (.inr h)
              · omega), fun k h => by
            rcases hl4 k h with h | h
            · rcases HLO.out k h with h | h
              · exact .inl h
              · right; omega
            · right; omega⟩)
        clear hp4 hf4 hl4
        refine hK.out _ _ ?_
        clear hK K
        (try simp only [Act.put, List.setIfInBounds_toArray, List.set_cons_zero, List.set_cons_succ])
        (refine wpAnyT_late (i := 11) (oi := ?_) ?_ (by as_aux_lemma => kernel_rfl) (by as_aux_lemma => kernel_rfl) (fun K hK => ?_); rotate_left; (focus (simp only [List.getElem?_toArray, List.getElem?_cons_succ, List.getElem?_cons_zero] <;> rfl)))
        go_simp
        refine hK.out _ _ ?_
        clear hK K
        refine wpAnyT_done (by as_aux_lemma => kernel_rfl) ?_ _
        go_wp2_with fail
        go_ret
        exact HR.out
      · rw [hb] at HNX
        have HB := Lib.hid hb
        clear hb
        go_wp2_with fail
        refine wp_region_till 10 (fun W => W.cell? ⟨g, k, none⟩ = some (.string x) ∧ W.cell? ⟨q, 0, none⟩ = some (.slice (some ⟨ab, ao, none⟩) n cap)) (by as_aux_lemma => kernel_rfl) ?_
        (refine wpAnyT_take (i := 0) (oi := ?_) (v := ?_) ?_ (by as_aux_lemma => kernel_rfl) (by as_aux_lemma => kernel_rfl) (by as_aux_lemma => kernel_rfl) (by as_aux_lemma => kernel_rfl) ?_ (Or.inl ⟨?_, ?_⟩) HS.out ?_; rotate_left 2; (focus (simp only [List.getElem?_toArray, List.getElem?_cons_succ, List.getElem?_cons_zero] <;> rfl)); (focus exact (fun _ _ _ h => h)); (focus rfl); (focus (intro w hSw; (try dsimp only at hSw); go_simp; try (with_reducible rfl))))
        (try simp only [Act.put, List.setIfInBounds_toArray, List.set_cons_zero, List.set_cons_succ])
        (refine wpAnyT_take (i := 1) (oi := ?_) (v := ?_) ?_ (by as_aux_lemma => kernel_rfl) (by as_aux_lemma => kernel_rfl) (by as_aux_lemma => kernel_rfl) (by as_aux_lemma => kernel_rfl) ?_ (Or.inl ⟨?_, ?_⟩) HS.out ?_; rotate_left 2; (focus (simp only [List.getElem?_toArray, List.getElem?_cons_succ, List.getElem?_cons_zero] <;> rfl)); (focus exact (fun _ _ _ h => h)); (focus rfl); (focus (intro w hSw; (try dsimp only at hSw); go_simp; try (with_reducible rfl))))
        (try simp only [Act.put, List.setIfInBounds_toArray, List.set_cons_zero, List.set_cons_succ])
        (refine wpAnyT_take (i := 2) (oi := ?_) (v := ?_) ?_ (by as_aux_lemma => kernel_rfl) (by as_aux_lemma => kernel_rfl) (by as_aux_lemma => kernel_rfl) (by as_aux_lemma => kernel_rfl) ?_ (Or.inl ⟨?_, ?_⟩) HS.out ?_; rotate_left 2; (focus (simp only [List.getElem?_toArray, List.getElem?_cons_succ, List.getElem?_cons_zero] <;> rfl)); (focus exact (fun _ _ _ h => h)); (focus rfl); (focus (intro w hSw; (try dsimp only at hSw); go_simp; try (with_reducible rfl))))
        (try simp only [Act.put, List.setIfInBounds_toArray, List.set_cons_zero, List.set_cons_succ])
        (refine wpAnyT_take (i := 3) (oi := ?_) (v := ?_) ?_ (by as_aux_lemma => kernel_rfl) (by as_aux_lemma => kernel_rfl) (by as_aux_lemma => kernel_rfl) (by as_aux_lemma => kernel_rfl) ?_ (Or.inl ⟨?_, ?_⟩) HS.out ?_; rotate_left 2; (focus (simp only [List.getElem?_toArray, List.getElem?_cons_succ, List.getElem?_cons_zero] <;> rfl)); (focus exact (fun _ _ _ h => h)); (focus rfl); (focus (intro w hSw; (try dsimp only at hSw); go_simp; try (with_reducible rfl))))
        (try simp only [Act.put, List.setIfInBounds_toArray, List.set_cons_zero, List.set_cons_succ])
        (refine wpAnyT_take (i := 4) (oi := ?_) (v := ?_) ?_ (by as_aux_lemma => kernel_rfl) (by as_aux_lemma => kernel_rfl) (by as_aux_lemma => kernel_rfl) (by as_aux_lemma => kernel_rfl) ?_ (Or.inl ⟨?_, ?_⟩) HS.out ?_; rotate_left 2; (focus (simp only [List.getElem?_toArray, List.getElem?_cons_succ, List.getElem?_cons_zero] <;> rfl)); (focus exact (fun _ _ _ h => h)); (focus rfl); (focus (intro w hSw; (try dsimp only at hSw); go_simp; try (with_reducible rfl))))
        (try simp only [Act.put, List.setIfInBounds_toArray, List.set_cons_zero, List.set_cons_succ])
        (refine wpAnyT_take (i := 5) (oi := ?_) (v := ?_) ?_ (by as_aux_lemma => kernel_rfl) (by as_aux_lemma => kernel_rfl) (by as_aux_lemma => kernel_rfl) (by as_aux_lemma => kernel_rfl) ?_ (Or.inl ⟨?_, ?_⟩) HS.out ?_; rotate_left 2; (focus (simp only [List.getElem?_toArray, List.getElem?_cons_succ, List.getElem?_cons_zero] <;> rfl)); (focus exact (fun _ _ _ h => h)); (focus rfl); (focus (intro w hSw; (try dsimp only at hSw); go_simp; try (with_reducible rfl))))
        (try simp only [Act.put, List.setIfInBounds_toArray, List.set_cons_zero, List.set_cons_succ])
        (refine wpAnyT_take (i := 6) (oi := ?_) (v := ?_) ?_ (by as_aux_lemma => kernel_rfl) (by as_aux_lemma => kernel_rfl) (by as_aux_lemma => kernel_rfl) (by as_aux_lemma => kernel_rfl) ?_ (Or.inl ⟨?_, ?_⟩) HS.out ?_; rotate_left 2; (focus (simp only [List.getElem?_toArray, List.getElem?_cons_succ, List.getElem?_cons_zero] <;> rfl)); (focus exact (fun _ _ _ h => h)); (focus rfl); (focus (intro w hSw; (try dsimp only at hSw); go_simp; try (with_reducible rfl))))
        (try simp only [Act.put, List.setIfInBounds_toArray, List.set_cons_zero, List.set_cons_succ])
        (refine wpAnyT_take (i := 7) (oi := ?_) (v := ?_) ?_ (by as_aux_lemma => kernel_rfl) (by as_aux_lemma => kernel_rfl) (by as_aux_lemma => kernel_rfl) (by as_aux_lemma => kernel_rfl) ?_ (Or.inl ⟨?_, ?_⟩) HS.out ?_; rotate_left 2; (focus (simp only [List.getElem?_toArray, List.getElem?_cons_succ, List.getElem?_cons_zero] <;> rfl)); (focus exact (fun _ _ _ h => h)); (focus rfl); (focus (intro w hSw; (try dsimp only at hSw); go_simp; try (with_reducible rfl))))
        (try simp only [Act.put, List.setIfInBounds_toArray, List.set_cons_zero, List.set_cons_succ])
        (refine wpAnyT_take (i := 8) (oi := ?_) (v := ?_) ?_ (by as_aux_lemma => kernel_rfl) (by as_aux_lemma => kernel_rfl) (by as_aux_lemma => kernel_rfl) (by as_aux_lemma => kernel_rfl) ?_ (Or.inl ⟨?_, ?_⟩) HS.out ?_; rotate_left 2; (focus (simp only [List.getElem?_toArray, List.getElem?_cons_succ, List.getElem?_cons_zero] <;> rfl)); (focus exact (fun _ _ _ h => h)); (focus rfl); (focus (intro w hSw; (try dsimp only at hSw); go_simp; try (with_reducible rfl))))
        (try simp only [Act.put, List.setIfInBounds_toArray, List.set_cons_zero, List.set_cons_succ])
        (refine wpAnyT_one (i := 9) (oi := ?_) ?_ (by as_aux_lemma => kernel_rfl) (fun K hK => ?_); rotate_left; (focus (simp only [List.getElem?_toArray, List.getElem?_cons_succ, List.getElem?_cons_zero] <;> rfl)))
        go_simp
        refine HAT.out.mono ?_
        rintro e wz ⟨rfl, rfl⟩
        refine hK.out _ _ HS.out ?_
        clear hK K
        (try simp only [Act.put, List.setIfInBounds_toArray, List.set_cons_zero, List.set_cons_succ])
        (refine wpAnyT_late (i := 10) (oi := ?_) ?_ (by as_aux_lemma => kernel_rfl) (by as_aux_lemma => kernel_rfl) (fun K hK => ?_); rotate_left; (focus (simp only [List.getElem?_toArray, List.getElem?_cons_succ, List.getElem?_cons_zero] <;> rfl)))
        go_simp
        refine HI.out.mono ?_
        rintro e w4 ⟨ov4, he, hp4, hf4, hl4⟩
        rw [HB.out] at he
        subst he
        have HP4 := Lib.hid hp4
        have HF4 := Lib.hid (show Fr (FF q ob (.slice oa s.out.length oc)) w2 w4 from HFR.out.drew.trans hf4 (fun k hk h => by
            rcases h with h | h | h
            · exact .inl h
            · exact .inr (.inl h)
            · rcases HLO.out k h with h | h
              · exact .inr (.inr h)
              · omega))
        have HL4 := Lib.hid (show ∀ k, ov4.ownBlock = some k → (Value.slice oa s.out.length oc).ownBlock = some k ∨ w2.heap.size ≤ k from fun k h => by
            rcases hl4 k h with h | h
            · exact HLO.out k h
            · right; omega)
        clear hp4 hf4 hl4
        refine hK.out _ _ ?_
        clear hK K
        (try simp only [Act.put, List.setIfInBounds_toArray, List.set_cons_zero, List.set_cons_succ])
        (refine wpAnyT_late (i := 11) (oi := ?_) ?_ (by as_aux_lemma => kernel_rfl) (by as_aux_lemma => kernel_rfl) (fun K hK => ?_); rotate_left; (focus (simp only [List.getElem?_toArray, List.getElem?_cons_succ, List.getElem?_cons_zero] <;> rfl)))
        go_simp
        refine hK.out _ _ ?_
        clear hK K
        refine wpAnyT_done (by as_aux_lemma => kernel_rfl) ?_ _
        go_wp2_with fail
        go_roundw
        case rel => exact ⟨k + 1, _, ov4, by omega, by go_num, HNX.out trivial, HP4.out, HF4.out, HL4.out⟩
        case measure => simp [intOf]; omega
    · obtain rfl : k = L.length := by omega
      rw [List.take_length] at hv
      have hM := HM0.out L.length s' (by rw [List.take_length]; exact hv)
      have hroom : s'.out.length + 1 + free s'.on n ≤ n := by have := hM.room; have := HRM.out; omega
      obtain ⟨pa, pc, rfl, p1, p2, p3⟩ := owns_shape hWr.row
      have d2 : wr.cell? ⟨q, 2, none⟩ = some (.slice pa s'.out.length pc) := by rw [cell_of_row wr q 2 _ _ _ hWr.blk]; rfl
      have dd1 : wr.cell? ⟨q, 1, none⟩ = some (.slice (some ⟨ob, 0, none⟩) n n) := by rw [cell_of_row wr q 1 _ _ _ hWr.blk]; rfl
      have dd2 : (wr.setCell ⟨ob, i, none⟩ (.int .i64 2)).cell? ⟨q, 2, none⟩ = some (.slice pa s'.out.length pc) := by rw [World.cell?_setCell_far wr ⟨ob, i, none⟩ ⟨q, 2, none⟩ _ (fun e => hWr.qo e.symm)]; exact d2
      have dco : wr.cell? ⟨ob, i, none⟩ = some (.int .i64 (stI s' i)) := by rw [cell_of_row wr ob i _ _ _ hWr.on, intsA_get _ _ _ hi]
      have dfo := frozen_of_row wr ob i _ _ hWr.on
      have hws : w2.heap.size ≤ wr.heap.size := hFr.size
      have HV := Lib.hid hv
      have HP := Lib.hid hWr
      have HFR := Lib.hid hFr
      have HLO := Lib.hid hlo
      have hbs := hWr.old.size
      have HB2 := Lib.hid (show (wr.setCell ⟨ob, i, none⟩ (.int .i64 2)).heap[q]? = some (.cells #[.slice (some ⟨ab, ao, none⟩) n cap, .slice (some ⟨ob, 0, none⟩) n n, .slice pa s'.out.length pc] 60 (0, 0)) from by rw [Below.heap_setCell wr _ _ q hWr.qo]; exact hWr.blk)
      have hsz : (wr.setCell ⟨ob, i, none⟩ (.int .i64 2)).heap.size = wr.heap.size := by simp
      have hnew := rd_new (wr.setCell ⟨ob, i, none⟩ (.int .i64 2)) (nats [i]) 3 1 1 (by simp [nats]) (by simp [maxLen])
      rw [hsz] at hnew
      have HNEW := Lib.hid hnew
      clear hM hv hWr hFr hlo hnew
      go_wp2_with (first | (at_builtin; refine app_own2 _ elemInt rfl _ _ rfl w0.heap.size _ s'.out.length (nats s'.out) rfl ((owns_set_other HP.out.row ⟨ob, i, none⟩ (.int .i64 2) HP.out.to).alloc _) _ 1 (nats [i]) rfl HNEW.out (nats_one _) (by simp only [maxLen]; omega) (by omega) (by simp; omega) ?_; intro v3 w3 ho3 hg3 hl3; have f3 := frozen_of_row w3 q 2 _ _ (blk_grown (blk_alloc HB2.out _) hg3 HP.out.tq); have k3 : w3.cell? ⟨q, 2, none⟩ = some (.slice pa s'.out.length pc) := (cell_of_row w3 q 2 _ _ _ (blk_grown (blk_alloc HB2.out _) hg3 HP.out.tq)).trans rfl; obtain ⟨a3, m3, rfl, _, _, _⟩ := owns_shape ho3) | fail)
      have hPW := HP.out.done _ i hroom ho3 hg3 hl3
      have hfr : Fr (FF q ob (.slice oa s.out.length oc)) w (w3.setCell ⟨q, 2, none⟩ (.slice a3 (s'.out.length + 1) m3)) := ((((HF2.out.trans HFR.out (fun _ _ h => h)).setCell (p := ⟨ob, i, none⟩) (.inr (.inr (.inl rfl))) (.int .i64 2)).alloc _).trans (Fr.of_grown (F := fun k => (Value.slice pa s'.out.length pc).ownBlock = some k) hg3 (fun k h => h)) (fun k hk h => by
        rcases HLO.out k h with h | h
        · exact .inr (.inr h)
        · omega)).setCell (.inr (.inl rfl)) _
      have HR := Lib.hid (show RPost w0 q ob (some ⟨ab, ao, none⟩) n cap M w (.slice oa s.out.length oc) (vis M n (f + 1) s i) (.returned (.bool true)) (w3.setCell ⟨q, 2, none⟩ (.slice a3 (s'.out.length + 1) m3)) from
        ⟨_, by rw [HVIS.out, HV.out]; rfl, by rw [HVIS.out, HV.out]; exact hPW, hfr, fun k h => by
          rcases hl3 k h with h | h
          · rcases HLO.out k h with h | h
            · exact .inl h
            · right; omega
          · right; simp at h; omega⟩)
      clear hPW hfr
      go_wp2_with fail
      go_ret
      exact HR.out
end
theorem visit_ref {w0 : World} {q ob n cap : Nat} {a : Option Addr} {M : Nat → Md} (hn : n ≤ 1000) (hp : ModsAt w0 a n cap M) (hA : All M n) : ∀ (f : Nat) (w : World) (ov : Value) (s : St) (i : Nat), RW w0 w q ob a n cap M ov s → i < n → free s.on n ≤ f →
    Calls Try.prog 15 #[.pointer (some ⟨q, 0, none⟩), .int .i64 (i : Int)] w (RPost w0 q ob a n cap M w ov (vis M n f s i)) := by
  intro f
  have hyes : ∀ (f : Nat) (w : World) (ov : Value) (s : St) (i : Nat), RW w0 w q ob a n cap M ov s → i < n → (i ∈ s.out ∨ s.on i = true) → Calls Try.prog 15 #[.pointer (some ⟨q, 0, none⟩), .int .i64 (i : Int)] w (RPost w0 q ob a n cap M w ov (vis M n f s i)) := fun f w ov s i hW hi h => by
    have e : vis M n f s i = (decide (i ∈ s.out), s) := by
      by_cases hi : i ∈ s.out
      · rw [vis_in hi, decide_eq_true hi]
      · rw [vis_on hi (h.resolve_left hi), decide_eq_false hi]
    rw [e]
    exact (rvisit_there hn hW i hi h).mono fun e w' ⟨he, hw⟩ => by subst hw; exact ⟨ov, he, hW, Fr.of_new (Below.refl _ _), fun k hk => .inl hk⟩
  induction f with
  | zero =>
    intro w ov s i hW hi hf
    refine hyes 0 w ov s i hW hi (.inr ?_)
    cases ho : s.on i
    · have := free_upd s.on i ho n hi; omega
    · rfl
  | succ f ih =>
    intro w ov s i hW hi hf
    by_cases h : i ∈ s.out
    · exact hyes _ w ov s i hW hi (.inl h)
    · cases ho : s.on i
      · exact rvisit_go f hn hp hA ih hW i hi hf h ho
      · exact hyes _ w ov s i hW hi (.inr ho)
end Go.Proofs.Ytelpnbjnjfajdaa
