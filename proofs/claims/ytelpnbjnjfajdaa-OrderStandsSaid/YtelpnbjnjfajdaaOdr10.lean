/- Order: the law's modules, made of masks. -/
import Derived.Test.YtelpnbjnjfajdaaOdr9
import Derived.Test.YtelpnbjnjfajdaaLib
import Derived.Deep.DeepCutAuto
namespace Go.Proofs.Ytelpnbjnjfajdaa
open Go.RowKit Go.Waf Go.Maps
set_option maxRecDepth 100000
set_option linter.unusedVariables false
set_option linter.unusedSimpArgs false

theorem elemMod : Elem Try.prog 25 44 8 184 := Elem.mk' (z := .agg #[.string ByteArray.empty, .slice none 0 0, .slice none 0 0, .slice none 0 0, .slice none 0 0, .slice none 0 0, .slice none 0 0, .slice none 0 0]) Try.underlying25 (by kernel_rfl) rfl (by decide)
def pM : ByteArray := { data := #[77] }
/-- The name of number k. -/
def nmB (k : Nat) : ByteArray := pM ++ strOfNums [(97 : Int) + (k : Int)]
def bitOf (z : Int) (k : Nat) : Bool := z / 2 ^ k % 2 == 1
def impsB (n : Nat) (z : Int) (m : Nat) : List ByteArray := (if bitOf z 20 = true then [sOut] else []) ++ ((List.range m).filter (fun k => bitOf z k)).map nmB
def sMb : ByteArray := { data := #[77, 98] }
def madeM (zs : List Int) (tw : Bool) (i : Nat) : Md := ⟨if (tw && decide (2 < i)) = true then sMb else nmB i, impsB zs.length (zs.getD i 0) (min (zs.length + 1) 20)⟩
def modCells (s : ByteArray) (iv : Value) : List Value := [.string s, iv, .slice none 0 0, .slice none 0 0, .slice none 0 0, .slice none 0 0, .slice none 0 0, .slice none 0 0]
def modRow (M : Nat → Md) (I : Nat → Value) : Nat → List Value
  | 0 => []
  | k + 1 => modRow M I k ++ modCells (M k).name (I k)
theorem rd_newAt {b : Nat} (w : World) (hb : b = w.heap.size) (cs : List Value) (t : TypeId) (n size : Nat) (hl : cs.length = n * size) (hm : n ≤ maxLen) : Rd (w.alloc (.cells cs.toArray t)) size (.slice (some ⟨b, 0, none⟩) n n) n cs := by
  subst hb; exact rd_new w cs t n size hl hm
theorem conv1 (w : World) (x : Int) : (convert 48 9 (.slice (some ⟨w.heap.size, 0, none⟩) 1 1)).run Try.prog (w.alloc (.cells #[.int .u8 x] 5)) = .ok (.string (strOfNums [x])) (w.alloc (.cells #[.int .u8 x] 5)) :=
  conv_rd (xs := [x]) Try.underlying48 Try.underlying5 Try.underlying9 (rd_new w [.int .u8 x] _ 1 1 rfl (by decide))
/-- k modules have been made. -/
structure MadeAt (w0 w : World) (v : Value) (M : Nat → Md) (k : Nat) (I : Nat → Value) : Prop where
  row : w.ownsRow w0.heap.size 44 8 v k (modRow M I k)
  imps : ∀ i, i < k → Rd w 1 (I i) (M i).imps.length (strs (M i).imps)
  apart : ∀ i, i < k → ∀ b, (I i).ownBlock = some b → v.ownBlock ≠ some b
  lt : ∀ i, i < k → ∀ b, (I i).ownBlock = some b → b < w.heap.size
  old : Below w0.heap.size w0 w

theorem impsB_succ (n : Nat) (z : Int) (m : Nat) : impsB n z (m + 1) = impsB n z m ++ (if bitOf z m = true then [nmB m] else []) := by
  unfold impsB
  rw [List.range_succ, List.filter_append, List.map_append, List.append_assoc]
  congr 2
  by_cases h : bitOf z m = true
  · rw [if_pos h, List.filter_cons_of_pos h]; rfl
  · rw [if_neg h, List.filter_cons_of_neg h]; rfl
theorem impsB_le (n : Nat) (z : Int) (m : Nat) : (impsB n z m).length ≤ m + 1 := by
  unfold impsB
  rw [List.length_append, List.length_map]
  have := List.length_filter_le (fun k => bitOf z k) (List.range m)
  rw [List.length_range] at this
  split <;> simp <;> omega
/-- The module in the making: at q, its imports a row of its own. -/
structure Mod1 (wo wx : World) (q : Nat) (nm : ByteArray) (iv : Value) (L : List ByteArray) : Prop where
  blk : wx.heap[q]? = some (.cells #[.string nm, iv, .slice none 0 0, .slice none 0 0, .slice none 0 0, .slice none 0 0, .slice none 0 0, .slice none 0 0] 44 (0, 0))
  row : wx.ownsRow (q + 1) 9 1 iv L.length (strs L)
  hq : wo.heap.size ≤ q
  old : Below wo.heap.size wo wx
theorem Mod1.lt {wo wx : World} {q : Nat} {nm : ByteArray} {iv : Value} {L : List ByteArray} (h : Mod1 wo wx q nm iv L) : q < wx.heap.size := (Array.getElem?_eq_some_iff.1 h.blk).1
theorem Mod1.start (wo wx : World) (q : Nat) (nm : ByteArray) (o : Obj) (hb : Below wo.heap.size wo wx) (hq : q = wx.heap.size) (ho : o = .cells #[.string nm, .slice none 0 0, .slice none 0 0, .slice none 0 0, .slice none 0 0, .slice none 0 0, .slice none 0 0, .slice none 0 0] 44 (0, 0)) : Mod1 wo (wx.alloc o) q nm (.slice none 0 0) [] := by
  subst hq ho
  exact ⟨heap_alloc_new wx _, World.ownsRow_nil _ _ _ _, hb.size, hb.alloc hb.size _⟩
theorem Mod1.blk3 {wo wr w2 w3 : World} {q : Nat} {nm : ByteArray} {iv : Value} {L : List ByteArray} (h : Mod1 wo wr q nm iv L) (hb : Below wr.heap.size wr w2) (hg : w2.grownBy w3 iv.ownBlock) :
    w3.heap[q]? = some (.cells #[.string nm, iv, .slice none 0 0, .slice none 0 0, .slice none 0 0, .slice none 0 0, .slice none 0 0, .slice none 0 0] 44 (0, 0)) :=
  blk_grown (g := q) (by rw [hb.block q h.lt]; exact h.blk) hg (fun e => by have := h.row.lt q e; omega)
/-- One more import. -/
theorem Mod1.add {wo wr w3 : World} {q : Nat} {nm : ByteArray} {iv v3 : Value} {L : List ByteArray} {x : ByteArray} (h : Mod1 wo wr q nm iv L) (w2 : World) (hb : Below wr.heap.size wr w2) (ho : w3.ownsRow (q + 1) 9 1 v3 (L.length + 1) (strs L ++ strs [x])) (hg : w2.grownBy w3 iv.ownBlock) :
    Mod1 wo (w3.setCell ⟨q, 1, none⟩ v3) q nm v3 (L ++ [x]) := by
  have hq := h.lt
  have hs := hb.size
  have n1 : iv.ownBlock ≠ some q := fun e => by have := h.row.lt q e; omega
  have n3 : v3.ownBlock ≠ some q := fun e => by have := ho.lt q e; omega
  have b1 : w3.heap[q]? = _ := blk_grown (g := q) (by rw [hb.block q hq]; exact h.blk) hg n1
  have hb3 : Below wo.heap.size wo w3 := by
    have hx := h.old.trans (hb.mono h.old.size)
    refine ⟨hg.os.trans hx.os, hg.tape.trans hx.tape, hg.output.trans hx.output, Nat.le_trans hx.size hg.size, fun j hj => (hg.block j (by have := hx.size; omega) fun e => ?_).trans (hx.block j hj)⟩
    have := (h.row.lt j e.symm).1; have := h.hq; omega
  refine ⟨by rw [heap_setCell_same w3 q 1 _ _ _ b1]; rfl, ?_, h.hq, hb3.setCell h.hq _⟩
  rw [List.length_append, strs_append]
  exact owns_set_other ho _ _ n3
theorem Mod1.name {wo wr : World} {q : Nat} {nm : ByteArray} {iv : Value} {L : List ByteArray} (h : Mod1 wo wr q nm iv L) (s : ByteArray) : Mod1 wo (wr.setCell ⟨q, 0, none⟩ (.string s)) q s iv L :=
  ⟨by rw [heap_setCell_same wr q 0 _ _ _ h.blk]; rfl, owns_set_other h.row _ _ (fun e => by have := h.row.lt q e; omega), h.hq, h.old.setCell h.hq _⟩
theorem modRow_length (M : Nat → Md) (I : Nat → Value) : ∀ k, (modRow M I k).length = k * 8
  | 0 => rfl
  | k + 1 => by rw [modRow, List.length_append, modRow_length M I k]; simp [modCells]; omega
theorem modRow_congr {M : Nat → Md} {I J : Nat → Value} : ∀ k, (∀ i, i < k → I i = J i) → modRow M I k = modRow M J k
  | 0, _ => rfl
  | k + 1, h => by rw [modRow, modRow, modRow_congr k (fun i hi => h i (by omega)), h k (by omega)]
theorem modRow_get (M : Nat → Md) (I : Nat → Value) : ∀ k i j, i < k → j < 8 → (modRow M I k)[i * 8 + j]? = (modCells (M i).name (I i))[j]?
  | 0, i, j, h, _ => absurd h (by omega)
  | k + 1, i, j, h, hj => by
    rw [modRow]
    by_cases he : i = k
    · subst he
      rw [List.getElem?_append_right (by rw [modRow_length]; omega), modRow_length]
      congr 1; omega
    · rw [List.getElem?_append_left (by rw [modRow_length]; omega)]
      exact modRow_get M I k i j (by omega) hj
/-- One more module. -/
theorem MadeAt.add {w0 wo wx w3 : World} {v v3 iv : Value} {M : Nat → Md} {k q : Nat} {I : Nat → Value} (h : MadeAt w0 wo v M k I) (hm : Mod1 wo wx q (M k).name iv (M k).imps) (w2 : World) (hb : Below wx.heap.size wx w2)
    (ho : w3.ownsRow w0.heap.size 44 8 v3 (k + 1) (modRow M I k ++ modCells (M k).name iv)) (hg : w2.grownBy w3 v.ownBlock) (hl : ∀ b, v3.ownBlock = some b → v.ownBlock = some b ∨ w2.heap.size ≤ b) :
    MadeAt w0 w3 v3 M (k + 1) (fun i => if i = k then iv else I i) := by
  have hs := h.old.size
  have hs1 := hm.old.size
  have hs2 := hb.size
  have hb2 : Below wo.heap.size wo w2 := hm.old.trans (hb.mono hs1)
  have hF : Fr (fun b => v.ownBlock = some b) w2 w3 := Fr.of_grown hg fun b hb => hb
  have hrl : ∀ b, iv.ownBlock = some b → wo.heap.size < b + 1 ∧ b < wx.heap.size := fun b hb => by have := hm.row.lt b hb; have := hm.hq; omega
  have hvl : ∀ b, v.ownBlock = some b → b < wo.heap.size := fun b hb => (h.row.lt b hb).2
  have hrd : ∀ i, i < k → Rd w2 1 (I i) (M i).imps.length (strs (M i).imps) := fun i hi => (h.imps i hi).below hb2 (Nat.le_refl _)
  have hiv : Rd w2 1 iv (M k).imps.length (strs (M k).imps) := (rd_of_owns hm.row).below hb (Nat.le_refl _)
  have hgs := hg.size
  have hbase : w0.heap.size ≤ wo.heap.size := hs
  refine ⟨?_, fun i hi => ?_, fun i hi b => ?_, fun i hi b => ?_, below_of_grown (h.old.trans (hb2.mono hs)) (Nat.le_trans hs (Nat.le_trans hs1 hs2)) ((Fr.of_below hb2).owns h.row fun b e hf => by have := hvl b e; omega) (Nat.le_refl _) rfl hg⟩
  · have e : modRow M (fun i => if i = k then iv else I i) (k + 1) = modRow M I k ++ modCells (M k).name iv := by
      rw [modRow, if_pos rfl]
      rw [modRow_congr (J := I) k fun i hi => if_neg (by omega)]
    rw [e]; exact ho
  · by_cases he : i = k
    · subst he
      simp only [if_true]
      exact hF.rd hiv fun b e hf => by have := hvl b hf; have := hrl b e; omega
    · rw [if_neg he]
      exact hF.rd (hrd i (by omega)) fun b e hf => h.apart i (by omega) b e hf
  · by_cases he : i = k
    · subst he
      simp only [if_true]
      intro e1 e2
      have := hrl b e1
      rcases hl b e2 with h3 | h3
      · have := hvl b h3; omega
      · omega
    · rw [if_neg he]
      intro e1 e2
      have := h.lt i (by omega) b e1
      rcases hl b e2 with h3 | h3
      · exact h.apart i (by omega) b e1 h3
      · omega
  · by_cases he : i = k
    · subst he
      simp only [if_true]
      intro e1
      have := hrl b e1
      omega
    · rw [if_neg he]
      intro e1
      have := h.lt i (by omega) b e1
      omega

theorem modCells_one (s : ByteArray) (a : Option Addr) (n cap : Nat) : ∀ u ∈ modCells s (.slice a n cap), u.oneCell' = true := by
  intro u hu
  simp only [modCells, List.mem_cons, List.not_mem_nil, or_false] at hu
  rcases hu with rfl | rfl | rfl | rfl | rfl | rfl | rfl | rfl <;> rfl
theorem MadeAt.mods {w0 w : World} {a : Option Addr} {n cap : Nat} {M : Nat → Md} {I : Nat → Value} (h : MadeAt w0 w (.slice a n cap) M n I) (h1 : ∀ i, i < n → (M i).imps.length ≤ 1000) (h2 : ∀ i, i < n → (M i).name.size ≤ 1000) (h3 : ∀ i, i < n → ∀ s ∈ (M i).imps, s.size ≤ 1000) : ModsAt w a n cap M := by
  obtain ⟨_, a', c', he, p1, p2, p3, p4⟩ := rd_of_owns h.row
  cases he
  refine ⟨p1, by unfold maxLen at p2; omega, fun hn => ?_, h1, h2, h3⟩
  obtain ⟨b, off, rfl, hc⟩ := p4 hn
  refine ⟨b, off, rfl, fun i hi => ⟨I i, h.imps i hi, ?_⟩⟩
  have hg : ∀ j u, j < 8 → (modCells (M i).name (I i))[j]? = some u → w.cell? ⟨b, off + i * 8 + j, none⟩ = some u := fun j u hj hu => by
    rw [Nat.add_assoc]
    exact hc _ _ ((modRow_get M I n i j hi hj).trans hu)
  exact ⟨hg 0 _ (by decide) rfl, hg 1 _ (by decide) rfl, hg 2 _ (by decide) rfl, hg 3 _ (by decide) rfl, hg 4 _ (by decide) rfl, hg 5 _ (by decide) rfl, hg 6 _ (by decide) rfl, hg 7 _ (by decide) rfl⟩
theorem nmB_size (k : Nat) : (nmB k).size = 2 := by unfold nmB; rw [ByteArray.size_append, strOfNums_size]; rfl
theorem madeM_small (zs : List Int) (tw : Bool) (hl : zs.length ≤ 18) (i : Nat) (hi : i < zs.length) : (madeM zs tw i).imps.length ≤ 1000 := by
  show (impsB zs.length (zs.getD i 0) (min (zs.length + 1) 20)).length ≤ 1000
  have := impsB_le zs.length (zs.getD i 0) (min (zs.length + 1) 20)
  omega
theorem madeM_name (zs : List Int) (tw : Bool) (hl : zs.length ≤ 18) (i : Nat) (hi : i < zs.length) : (madeM zs tw i).name.size ≤ 1000 := by
  show (if _ then sMb else nmB i).size ≤ 1000
  split
  · decide
  · rw [nmB_size]; decide
theorem madeM_iname (zs : List Int) (tw : Bool) (hl : zs.length ≤ 18) (i : Nat) (hi : i < zs.length) : ∀ s ∈ (madeM zs tw i).imps, s.size ≤ 1000 := by
  intro s hs
  have hs : s ∈ impsB zs.length (zs.getD i 0) (min (zs.length + 1) 20) := hs
  unfold impsB at hs
  rcases List.mem_append.1 hs with h | h
  · split at h
    · rw [List.mem_singleton.1 h]; decide
    · cases h
  · obtain ⟨k, _, rfl⟩ := List.mem_map.1 h
    rw [nmB_size]; decide

set_option maxHeartbeats 6400000 in
theorem made_prog (w : World) (v : Value) (zs : List Int) (tw : Bool) (hl : zs.length ≤ 18) (hr : Rd w 1 v zs.length (zs.map (Value.int .u32))) (hw : ∀ z ∈ zs, 0 ≤ z ∧ z ≤ 4294967295) :
    Calls Try.prog 6 #[v, .bool tw] w fun e w' => (∃ a cap, e = .returned (.slice a zs.length cap) ∧ ModsAt w' a zs.length cap (madeM zs tw)) ∧ Below w.heap.size w w' := by
  obtain ⟨hl1, a1, c1, rfl, p1, p2, p3, p4⟩ := hr
  have P4 := Lib.hid p4
  have P3 := Lib.hid p3
  have HW := Lib.hid hw
  unfold maxLen at p2
  clear hl1 p3 p4 hw
  have hc1 := conv1
  go_enter Try.func6, Try.ntmps6
  go_wp2_with fail
  go_loopw [5, 6] (fun v z wr => ∃ (k : Nat) (I : Nat → Value), k ≤ zs.length ∧ z = .int .i64 (k : Int) ∧ MadeAt w wr v (madeM zs tw) k I) (fun _ z _ => zs.length - (intOf z).toNat)
  case atStart => exact ⟨0, fun _ => .slice none 0 0, by omega, rfl, World.ownsRow_nil _ _ _ _, fun i hi => absurd hi (by omega), fun i hi => absurd hi (by omega), fun i hi => absurd hi (by omega), Below.refl _ _⟩
  case round =>
    obtain ⟨k, I, hk, rfl, hM⟩ := hrel
    obtain ⟨wo, rfl⟩ : ∃ wo : World, wo = wr := ⟨_, rfl⟩
    by_cases hlt : k < zs.length
    · obtain ⟨z, hz⟩ : ∃ z, z = zs.getD k 0 := ⟨_, rfl⟩
      have HZ := Lib.hid hz
      obtain ⟨oa, oc, rfl, y1, y2, y3⟩ := owns_shape hM.row
      have HM := Lib.hid hM
      obtain ⟨b1, o1, rfl, hcc⟩ := P4.out (by omega)
      have d1 : w.cell? ⟨b1, o1 + k, none⟩ = some (.int .u32 z) := by rw [hz]; exact hcc k _ (by simp [hlt])
      have d2 := cell_below hM.old (Nat.le_refl _) d1
      have hb1 : b1 < wo.heap.size := World.block_lt_of_cell? _ _ d2
      clear hz hM hcc d1
      obtain ⟨z0, z1⟩ := HW.out z (by rw [HZ.out]; simp [hlt])
      have hbt : ∀ j, bits .and .u32 (z / 2 ^ j) 1 = z / 2 ^ j % 2 := fun j => Waf.mask .u32 1 (by decide) (by decide) _
      obtain ⟨B20, hB20⟩ : ∃ B, (bits .and .u32 (z / 1048576) 1 == 1) = B := ⟨_, rfl⟩
      have hb20 : bitOf z 20 = B20 := by rw [← hB20, show (1048576 : Int) = 2 ^ 20 from rfl, hbt]; rfl
      have HB20 := Lib.hid hb20
      have HBT := Lib.hid hbt
      clear hb20 hbt
      go_upto_if 28 with fail
      obtain ⟨wq, hwq⟩ : ∃ wq : World, wq = (wo.alloc (.cells #[.int .u8 (97 + (k : Int))] 5)).alloc (.cells #[.string (({ data := #[77] } : ByteArray) ++ strOfNums [97 + (k : Int)]), .slice none 0 0, .slice none 0 0, .slice none 0 0, .slice none 0 0, .slice none 0 0, .slice none 0 0, .slice none 0 0] 44) := ⟨_, rfl⟩
      rw [← hwq]
      have hst : Mod1 wo wq (wo.heap.size + 1) (nmB k) (.slice none 0 0) [] := by rw [hwq]; exact Mod1.start wo _ _ (nmB k) _ ((Below.refl _ _).alloc (Nat.le_refl _) _) (by simp) rfl
      have HST := Lib.hid hst
      have c1 : wq.cell? ⟨wo.heap.size + 1, 1, none⟩ = some (.slice none 0 0) := by rw [cell_of_row wq _ 1 _ _ _ hst.blk]; rfl
      have hlq := hst.lt
      clear hst hwq
      go_cut [] (fun wx => ∃ iv, Mod1 wo wx (wo.heap.size + 1) (nmB k) iv (if B20 = true then [sOut] else []))
      case first =>
        cases B20
        · go_wp2_with fail
          go_meet
          case rel => exact ⟨_, by rw [if_neg (by simp)]; exact HST.out⟩
        · go_wp2_with (first | (at_builtin; refine app_own _ elemStr rfl _ _ rfl (wo.heap.size + 1 + 1) _ 0 (strs []) rfl (HST.out.row.alloc _) _ 1 (strs [sOut]) rfl (rd_new _ _ _ _ _ (by simp [strs]) (by simp [maxLen])) (strs_one _) (by decide) (by decide) (by simp; omega) ?_; intro v3 w3 ho3 hg3; have b3 := HST.out.blk3 ((Below.refl _ _).alloc (Nat.le_refl _) _) hg3; have f3 := frozen_of_row w3 _ 1 _ _ b3; have k3 := (cell_of_row w3 _ 1 _ _ _ b3).trans (rfl : _ = some (Value.slice none 0 0)); obtain ⟨a3, m3, rfl, _, _, _⟩ := owns_shape ho3; clear b3))
          go_meet
          case rel => exact ⟨_, by rw [if_pos trivial]; exact HST.out.add _ ((Below.refl _ _).alloc (Nat.le_refl _) _) ho3 hg3⟩
      case rest =>
        obtain ⟨iv, hm1⟩ := hcut
        obtain ⟨wp, rfl⟩ : ∃ wp : World, wp = wc := ⟨_, rfl⟩
        have HM1 := Lib.hid (show Mod1 wo wp (wo.heap.size + 1) (nmB k) iv (impsB zs.length z 0) from by unfold impsB; rw [HB20.out]; simpa using hm1)
        clear hm1 hB20
        go_wp2_with fail
        go_loopw [8] (fun j wr => ∃ (m : Nat) (iv : Value), m ≤ min (zs.length + 1) 20 ∧ j = .int .i64 (m : Int) ∧ Mod1 wo wr (wo.heap.size + 1) (nmB k) iv (impsB zs.length z m)) (fun j _ => 20 - (intOf j).toNat)
        case atStart => exact ⟨0, iv, by omega, rfl, HM1.out⟩
        case round =>
          obtain ⟨m, iv2, hm, rfl, h1⟩ := hrel
          obtain ⟨wi, rfl⟩ : ∃ wi : World, wi = wr := ⟨_, rfl⟩
          have H1 := Lib.hid h1
          have d3 : wi.cell? ⟨b1, o1 + k, none⟩ = some (.int .u32 z) := cell_below h1.old (Nat.le_refl _) d2
          by_cases hlm : m < min (zs.length + 1) 20
          · have q1 : (m : Int) < (zs.length : Int) + 1 := by omega
            have q2 : (m : Int) < 20 := by omega
            obtain ⟨Bm, hBm⟩ : ∃ B, (bits .and .u32 (z / 2 ^ m) 1 == 1) = B := ⟨_, rfl⟩
            have hbm : bitOf z m = Bm := by rw [← hBm, HBT.out]; rfl
            have HBM := Lib.hid hbm
            have c1 : wi.cell? ⟨wo.heap.size + 1, 1, none⟩ = some iv2 := by rw [cell_of_row wi _ 1 _ _ _ h1.blk]; rfl
            obtain ⟨ia, ic, rfl, i1, i2, i3⟩ := owns_shape h1.row
            obtain ⟨L, hL⟩ : ∃ L, L = impsB zs.length z m := ⟨_, rfl⟩
            have hLl := impsB_le zs.length z m
            rw [← hL] at hLl h1 H1 i1
            have HIM := Lib.hid (impsB_succ zs.length z m)
            rw [← hL] at HIM c1
            have hli := h1.lt
            clear h1 hbm hL
            cases Bm
            · go_wp2_with fail
              go_roundw
              case rel => exact ⟨m + 1, _, by omega, by go_num, by rw [HIM.out, HBM.out, if_neg (by simp), List.append_nil]; exact H1.out⟩
              case measure => simp [intOf]; omega
            · go_wp2_with (first | (at_builtin; refine app_own _ elemStr rfl _ _ rfl (wo.heap.size + 1 + 1) _ L.length (strs L) rfl ((H1.out.row.alloc _).alloc _) _ 1 (strs [nmB m]) rfl (rd_newAt _ (by simp) _ _ _ _ (by simp [strs]) (by simp [maxLen])) (strs_one _) (by simp only [maxLen]; omega) (by omega) (by simp; omega) ?_; intro v3 w3 ho3 hg3; have b3 := H1.out.blk3 (((Below.refl _ _).alloc (Nat.le_refl _) _).alloc (by simp) _) hg3; have f3 := frozen_of_row w3 _ 1 _ _ b3; have k3 := (cell_of_row w3 _ 1 _ _ _ b3).trans (rfl : _ = some (Value.slice ia L.length ic)); obtain ⟨a3, m3, rfl, _, _, _⟩ := owns_shape ho3; clear b3))
              go_roundw
              case rel => exact ⟨m + 1, _, by omega, by go_num, by rw [HIM.out, HBM.out, if_pos rfl]; exact H1.out.add _ (((Below.refl _ _).alloc (Nat.le_refl _) _).alloc (by simp) _) ho3 hg3⟩
              case measure => simp [intOf]; omega
          · obtain rfl : m = min (zs.length + 1) 20 := by omega
            obtain ⟨L, hL⟩ : ∃ L, L = impsB zs.length z (min (zs.length + 1) 20) := ⟨_, rfl⟩
            rw [← hL] at h1 H1
            have HL := Lib.hid hL
            have hnz := cell_of_row wi _ 0 _ _ _ h1.blk
            have fnz := frozen_of_row wi _ 0 _ _ h1.blk
            have k0 : wi.cell? ⟨wo.heap.size + 1, 0, none⟩ = some (.string (nmB k)) := hnz.trans rfl
            obtain ⟨tb, htb⟩ : ∃ b, b = (tw && decide (2 < k)) := ⟨_, rfl⟩
            have HNM := Lib.hid (show (madeM zs tw k).name = if tb = true then sMb else nmB k from by rw [htb]; rfl)
            have HIMP := Lib.hid (show (madeM zs tw k).imps = L from by rw [HL.out, HZ.out]; rfl)
            have q1 : (((min (zs.length + 1) 20 : Nat) : Int) < (zs.length : Int) + 1 ∧ ((min (zs.length + 1) 20 : Nat) : Int) < 20) → False := by omega
            have HTB := Lib.hid htb
            clear h1 hL hnz htb
            go_upto_region 13 with fail
            go_cut [68] (fun y wx => y = .bool tb ∧ wx = wi)
            case first =>
              by_cases h2 : (2 : Int) < (k : Int)
              · have hd : decide (2 < k) = true := decide_eq_true (by omega)
                have HT2 := Lib.hid (show tb = tw from by rw [HTB.out, hd]; simp)
                clear hd
                cases tw
                · go_wp2_with fail
                  go_meet
                  case rel => exact ⟨by rw [HT2.out], rfl⟩
                · go_wp2_with fail
                  go_meet
                  case rel => exact ⟨by rw [HT2.out], rfl⟩
              · have hd : decide (2 < k) = false := decide_eq_false (by omega)
                have HT2 := Lib.hid (show tb = false from by rw [HTB.out, hd]; simp)
                clear hd
                cases tw
                · go_wp2_with fail
                  go_meet
                  case rel => exact ⟨by rw [HT2.out], rfl⟩
                · go_wp2_with fail
                  go_meet
                  case rel => exact ⟨by rw [HT2.out], rfl⟩
            case rest =>
            obtain ⟨rfl, hwc⟩ := hcut
            rw [hwc]
            clear hwc
            go_upto_if 68 with fail
            go_cut [] (fun wx => Mod1 wo wx (wo.heap.size + 1) (madeM zs tw k).name iv2 L)
            case first =>
              cases tb
              · have HN := Lib.hid (show (madeM zs tw k).name = nmB k from by rw [HNM.out, if_neg (by simp)])
                go_wp2_with fail
                go_meet
                case rel => rw [HN.out]; exact H1.out
              · have HN := Lib.hid (show (madeM zs tw k).name = sMb from by rw [HNM.out, if_pos rfl])
                go_wp2_with fail
                go_meet
                case rel => rw [HN.out]; exact H1.out.name sMb
            case rest =>
            obtain ⟨we, hwe⟩ : ∃ we : World, we = wc := ⟨_, rfl⟩
            rw [← hwe] at hcut ⊢
            clear hwe
            obtain ⟨nm, hnm⟩ : ∃ nm, nm = (madeM zs tw k).name := ⟨_, rfl⟩
            rw [← hnm] at hcut
            have hce := fun j => cell_of_row we (wo.heap.size + 1) j _ _ _ hcut.blk
            have e0 : we.cell? ⟨wo.heap.size + 1, 0, none⟩ = some (.string nm) := hce 0
            have e1 : we.cell? ⟨wo.heap.size + 1, 1, none⟩ = some iv2 := hce 1
            have e2 : we.cell? ⟨wo.heap.size + 1, 2, none⟩ = some (.slice none 0 0) := hce 2
            have e3 : we.cell? ⟨wo.heap.size + 1, 3, none⟩ = some (.slice none 0 0) := hce 3
            have e4 : we.cell? ⟨wo.heap.size + 1, 4, none⟩ = some (.slice none 0 0) := hce 4
            have e5 : we.cell? ⟨wo.heap.size + 1, 5, none⟩ = some (.slice none 0 0) := hce 5
            have e6 : we.cell? ⟨wo.heap.size + 1, 6, none⟩ = some (.slice none 0 0) := hce 6
            have e7 : we.cell? ⟨wo.heap.size + 1, 7, none⟩ = some (.slice none 0 0) := hce 7
            obtain ⟨ia, ic, rfl, i1, i2, i3⟩ := owns_shape hcut.row
            have hm1 : Mod1 wo we (wo.heap.size + 1) (madeM zs tw k).name (.slice ia L.length ic) (madeM zs tw k).imps := by rw [← hnm, HIMP.out]; exact hcut
            have hro := (Fr.of_below hm1.old).owns HM.out.row (fun b e hf => by have := (HM.out.row.lt b e).2; omega)
            have hbs : w.heap.size ≤ we.heap.size := Nat.le_trans HM.out.old.size hm1.old.size
            have HM1 := Lib.hid hm1
            have HRO := Lib.hid hro
            have HNN := Lib.hid hnm
            clear hm1 hro hnm hcut hce
            go_wp2_with (first | (at_builtin; refine app_own2 _ elemMod rfl _ _ rfl w.heap.size _ k (modRow (madeM zs tw) I k) rfl (HRO.out.alloc _) _ 1 (modCells nm (.slice ia L.length ic)) rfl (rd_new _ _ _ _ _ (by rfl) (by decide)) (modCells_one _ _ _ _) (by simp only [maxLen]; omega) (by omega) (by simp; omega) ?_; intro v3 w3 ho3 hg3 hl3))
            go_roundw
            case rel => exact ⟨k + 1, _, by omega, by go_num, HM.out.add HM1.out _ ((Below.refl _ _).alloc (Nat.le_refl _) _) (by rw [← HNN.out]; exact ho3) hg3 hl3⟩
            case measure => simp [intOf]; omega
    · obtain rfl : k = zs.length := by omega
      obtain ⟨a, cap, rfl, c1, c2, c3⟩ := owns_shape hM.row
      have HMM := Lib.hid (hM.mods (madeM_small zs tw hl) (madeM_name zs tw hl) (madeM_iname zs tw hl))
      have HOLD := Lib.hid hM.old
      clear hM
      go_wp2_with fail
      go_ret
      exact ⟨⟨_, _, rfl, HMM.out⟩, HOLD.out⟩
end Go.Proofs.Ytelpnbjnjfajdaa
