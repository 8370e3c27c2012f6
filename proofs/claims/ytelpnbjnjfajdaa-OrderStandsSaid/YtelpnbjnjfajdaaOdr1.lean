/- Order: rows of strings; modules in memory; what a module needs, by both. -/
import Derived.Test.YtelpnbjnjfajdaaChecked
import Derived.Test.YtelpnbjnjfajdaaMem3
import Derived.Deep.RegionHeld3
import Derived.Deep.QuietTactic
import Derived.BigQuiet
import Derived.WalkSpells
import Derived.WalkKit
import Derived.WalkSmall
import Derived.RegionTactic
import Derived.StillTailTactics
import Derived.Deep.LoopGhost
namespace Go.Proofs.Ytelpnbjnjfajdaa
open Go.RowKit Go.Waf
set_option maxRecDepth 100000
set_option linter.unusedVariables false

theorem cell_below {w w' : World} {B : Nat} {p : Addr} {u : Value} (hb : Below B w w') (hB : w.heap.size ≤ B) (hc : w.cell? p = some u) : w'.cell? p = some u := by
  rw [hb.cell (p := p) (Nat.lt_of_lt_of_le (World.block_lt_of_cell? w _ hc) hB)]; exact hc
theorem elemStr : Elem Try.prog 36 9 1 16 := Elem.mk' (z := .string ByteArray.empty) Try.underlying36 (by kernel_rfl) rfl (by decide)
def strs (l : List ByteArray) : List Value := l.map Value.string
theorem strs_length (l : List ByteArray) : (strs l).length = l.length := List.length_map ..
theorem strs_get (l : List ByteArray) (j : Nat) (h : j < l.length) : (strs l)[j]? = some (.string (l.getD j ByteArray.empty)) := by simp [strs, h]
theorem strs_one (l : List ByteArray) : ∀ u ∈ strs l, u.oneCell' = true := by
  intro u hu; obtain ⟨n, _, rfl⟩ := List.mem_map.1 hu; rfl
theorem strs_append (a b : List ByteArray) : strs (a ++ b) = strs a ++ strs b := List.map_append

/-- A module: its name, what it imports. -/
structure Md where
  name : ByteArray
  imps : List ByteArray
def sIn : ByteArray := { data := #[73, 110] }
def sOut : ByteArray := { data := #[79, 117, 116] }
/-- What is needed of what is imported. -/
def needed (s : ByteArray) : Bool := !(s.toList == [73, 110]) && !(s.toList == [79, 117, 116])
def needsOf (l : List ByteArray) : List ByteArray := l.filter needed
def mdV (s : ByteArray) (iv : Value) : Value := .agg #[.string s, iv, .slice none 0 0, .slice none 0 0, .slice none 0 0, .slice none 0 0, .slice none 0 0, .slice none 0 0]

theorem take_snoc (l : List ByteArray) (k : Nat) (h : k < l.length) : needsOf (l.take (k + 1)) = needsOf (l.take k) ++ (if needed (l.getD k ByteArray.empty) = true then [l.getD k ByteArray.empty] else []) := by
  have e : l.take (k + 1) = l.take k ++ [l.getD k ByteArray.empty] := by
    rw [List.take_add_one]; simp [h]
  rw [e]
  unfold needsOf
  rw [List.filter_append]
  congr 1
  generalize l.getD k ByteArray.empty = x
  by_cases hn : needed x = true
  · rw [if_pos hn, List.filter_cons_of_pos hn]; rfl
  · rw [if_neg hn, List.filter_cons_of_neg hn]; rfl
theorem needsOf_le (l : List ByteArray) : (needsOf l).length ≤ l.length := List.length_filter_le _ _

set_option maxHeartbeats 3200000 in
theorem needs_prog (w : World) (s : ByteArray) (iv : Value) (l : List ByteArray) (hl : l.length ≤ 1000) (hr : Rd w 1 iv l.length (strs l)) :
    Calls Try.prog 11 #[mdV s iv] w (OwnRet w.heap.size 9 1 (needsOf l).length (strs (needsOf l)) w) := by
  obtain ⟨hl1, a1, c1, rfl, p1, p2, p3, p4⟩ := hr
  have P4 := Lib.hid p4
  have P3 := Lib.hid p3
  unfold maxLen at p2
  clear hl1 p3 p4
  unfold mdV
  go_enter Try.func11, Try.ntmps11
  go_wp2_with fail
  go_loopw [3, 9] (fun v i wr => ∃ k : Nat, k ≤ l.length ∧ i = .int .i64 (k : Int) ∧ wr.ownsRow w.heap.size 9 1 v (needsOf (l.take k)).length (strs (needsOf (l.take k))) ∧ Below w.heap.size w wr) (fun _ i _ => l.length - (intOf i).toNat)
  case atStart => exact ⟨0, by omega, rfl, World.ownsRow_nil _ _ _ _, (Below.refl _ _).alloc (Nat.le_refl _) _⟩
  case round =>
    obtain ⟨k, hk, rfl, hrow, hb⟩ := hrel
    by_cases hlt : k < l.length
    · obtain ⟨b1, o1, rfl, hc1⟩ := P4.out (by omega)
      obtain ⟨x, hx⟩ : ∃ x, x = l.getD k ByteArray.empty := ⟨_, rfl⟩
      have d1 : wr.cell? ⟨b1, o1 + k, none⟩ = some (.string x) := by rw [hx]; exact cell_below hb (Nat.le_refl _) (hc1 k _ (strs_get l k hlt))
      have HT := Lib.hid (take_snoc l k hlt)
      rw [← hx] at HT
      have hle := needsOf_le (l.take k)
      rw [List.length_take] at hle
      obtain ⟨L, hL⟩ : ∃ L, L = needsOf (l.take k) := ⟨_, rfl⟩
      rw [← hL] at hrow hle HT
      have HROW := Lib.hid hrow
      have HB := Lib.hid hb
      have HL := Lib.hid hL
      clear hx hrow hb hc1 hL
      by_cases h1 : x.toList = [73, 110]
      · have hn : needed x = false := by simp [needed, h1]
        rw [hn] at HT
        have HT2 := Lib.hid (show needsOf (l.take (k + 1)) = L from by rw [HT.out]; simp)
        clear HT
        go_wp2_with fail
        go_roundw
        case rel => exact ⟨k + 1, by omega, by go_num, by rw [HT2.out]; exact HROW.out, HB.out⟩
        case measure => simp [intOf]; omega
      · by_cases h2 : x.toList = [79, 117, 116]
        · have hn : needed x = false := by simp [needed, h2]
          replace h1 : (x.toList == [73, 110]) = false := by simpa using h1
          rw [hn] at HT
          have HT2 := Lib.hid (show needsOf (l.take (k + 1)) = L from by rw [HT.out]; simp)
          clear HT
          go_wp2_with fail
          go_roundw
          case rel => exact ⟨k + 1, by omega, by go_num, by rw [HT2.out]; exact HROW.out, HB.out⟩
          case measure => simp [intOf]; omega
        · have hn : needed x = true := by simp [needed, h1, h2]
          replace h1 : (x.toList == [73, 110]) = false := by simpa using h1
          replace h2 : (x.toList == [79, 117, 116]) = false := by simpa using h2
          rw [hn] at HT
          have HT2 := Lib.hid (show needsOf (l.take (k + 1)) = L ++ [x] from by rw [HT.out]; simp)
          clear HT
          go_wp2_with (first | (at_builtin; refine app_own _ elemStr rfl _ _ rfl w.heap.size _ L.length (strs L) rfl (HROW.out.alloc _) _ 1 (strs [x]) rfl (rd_new _ _ _ _ _ (by simp) (by simp [maxLen])) (strs_one _) (by simp only [maxLen]; omega) (by omega) (by have := HB.out.size; simp; omega) ?_; intro v3 w3 ho3 hg3))
          go_roundw
          case rel => exact ⟨k + 1, by omega, by go_num, by rw [HT2.out, strs_append, List.length_append]; exact ho3, below_of_grown (HB.out.alloc HB.out.size _) (by have := HB.out.size; simp; omega) (HROW.out.alloc _) (Nat.le_refl _) rfl hg3⟩
          case measure => simp [intOf]; omega
    · obtain rfl : k = l.length := by omega
      have HR := Lib.hid (show OwnRet w.heap.size 9 1 (needsOf l).length (strs (needsOf l)) w (.returned u3) wr from ⟨u3, rfl, by rw [List.take_length] at hrow; exact hrow, hb⟩)
      clear hrow hb
      go_wp2_with fail
      go_ret
      exact HR.out

set_option maxHeartbeats 3200000 in
theorem needs_ref (w : World) (s : ByteArray) (iv : Value) (l : List ByteArray) (hl : l.length ≤ 1000) (hr : Rd w 1 iv l.length (strs l)) :
    Calls Try.prog 12 #[mdV s iv] w (OwnRet w.heap.size 9 1 (needsOf l).length (strs (needsOf l)) w) := by
  obtain ⟨hl1, a1, c1, rfl, p1, p2, p3, p4⟩ := hr
  have P4 := Lib.hid p4
  have P3 := Lib.hid p3
  unfold maxLen at p2
  clear hl1 p3 p4
  unfold mdV
  go_enter Try.func12, Try.ntmps12
  go_wp2_with fail
  go_loopw [3, 4] (fun v i wr => ∃ k : Nat, k ≤ l.length ∧ i = .int .i64 (k : Int) ∧ wr.ownsRow (w.heap.size + 1) 9 1 v (needsOf (l.take k)).length (strs (needsOf (l.take k))) ∧ Below (w.heap.size + 1) (w.alloc (.cells #[.string s, .slice a1 l.length c1, .slice none 0 0, .slice none 0 0, .slice none 0 0, .slice none 0 0, .slice none 0 0, .slice none 0 0] 44)) wr) (fun _ i _ => l.length - (intOf i).toNat)
  case atStart => exact ⟨0, by omega, rfl, World.ownsRow_nil _ _ _ _, Below.refl _ _⟩
  case round =>
    obtain ⟨k, hk, rfl, hrow, hb⟩ := hrel
    have cz : wr.cell? ⟨w.heap.size, 1, none⟩ = some (.slice a1 l.length c1) := cell_below hb (by simp) (by rw [World.cell?_alloc_new]; rfl)
    by_cases hlt : k < l.length
    · obtain ⟨b1, o1, rfl, hc1⟩ := P4.out (by omega)
      obtain ⟨x, hx⟩ : ∃ x, x = l.getD k ByteArray.empty := ⟨_, rfl⟩
      have d1 : wr.cell? ⟨b1, o1 + k, none⟩ = some (.string x) := by rw [hx]; exact cell_below hb (by simp) (cell_below (B := w.heap.size) ((Below.refl _ w).alloc (Nat.le_refl _) _) (Nat.le_refl _) (hc1 k _ (strs_get l k hlt)))
      have HT := Lib.hid (take_snoc l k hlt)
      rw [← hx] at HT
      have hle := needsOf_le (l.take k)
      rw [List.length_take] at hle
      obtain ⟨L, hL⟩ : ∃ L, L = needsOf (l.take k) := ⟨_, rfl⟩
      rw [← hL] at hrow hle HT
      have HROW := Lib.hid hrow
      have HB := Lib.hid hb
      have HL := Lib.hid hL
      clear hx hrow hb hc1 hL
      by_cases h1 : x.toList = [73, 110]
      · have hn : needed x = false := by simp [needed, h1]
        rw [hn] at HT
        have HT2 := Lib.hid (show needsOf (l.take (k + 1)) = L from by rw [HT.out]; simp)
        clear HT
        go_wp2_with fail
        go_roundw
        case rel => exact ⟨k + 1, by omega, by go_num, by rw [HT2.out]; exact HROW.out, HB.out⟩
        case measure => simp [intOf]; omega
      · by_cases h2 : x.toList = [79, 117, 116]
        · have hn : needed x = false := by simp [needed, h2]
          replace h1 : (x.toList == [73, 110]) = false := by simpa using h1
          rw [hn] at HT
          have HT2 := Lib.hid (show needsOf (l.take (k + 1)) = L from by rw [HT.out]; simp)
          clear HT
          go_wp2_with fail
          go_roundw
          case rel => exact ⟨k + 1, by omega, by go_num, by rw [HT2.out]; exact HROW.out, HB.out⟩
          case measure => simp [intOf]; omega
        · have hn : needed x = true := by simp [needed, h1, h2]
          replace h1 : (x.toList == [73, 110]) = false := by simpa using h1
          replace h2 : (x.toList == [79, 117, 116]) = false := by simpa using h2
          rw [hn] at HT
          have HT2 := Lib.hid (show needsOf (l.take (k + 1)) = L ++ [x] from by rw [HT.out]; simp)
          clear HT
          go_wp2_with (first | (at_builtin; refine app_own _ elemStr rfl _ _ rfl (w.heap.size + 1) _ L.length (strs L) rfl (HROW.out.alloc _) _ 1 (strs [x]) rfl (rd_new _ _ _ _ _ (by simp) (by simp [maxLen])) (strs_one _) (by simp only [maxLen]; omega) (by omega) (by have := HB.out.size; simp at this ⊢; omega) ?_; intro v3 w3 ho3 hg3))
          go_roundw
          case rel => exact ⟨k + 1, by omega, by go_num, by rw [HT2.out, strs_append, List.length_append]; exact ho3, below_of_grown (HB.out.alloc (by have := HB.out.size; simpa using this) _) (by have := HB.out.size; simp at this ⊢; omega) (HROW.out.alloc _) (Nat.le_refl _) rfl hg3⟩
          case measure => simp [intOf]; omega
    · obtain rfl : k = l.length := by omega
      have HR := Lib.hid (show OwnRet w.heap.size 9 1 (needsOf l).length (strs (needsOf l)) w (.returned u3) wr from ⟨u3, rfl, by rw [List.take_length] at hrow; exact owns_mono hrow (by omega), ((Below.refl _ w).alloc (Nat.le_refl _) _).trans (hb.mono (by omega))⟩)
      clear hrow hb
      go_wp2_with fail
      go_ret
      exact HR.out
end Go.Proofs.Ytelpnbjnjfajdaa
