/- Order: lists held against one another; where an int lies in a list; modules in memory; where a name lies. -/
import Derived.Test.YtelpnbjnjfajdaaOdr1
namespace Go.Proofs.Ytelpnbjnjfajdaa
open Go.RowKit Go.Waf
set_option maxRecDepth 100000
set_option linter.unusedVariables false

def nats (l : List Nat) : List Value := l.map (fun x : Nat => Value.int .i64 (x : Int))
theorem nats_length (l : List Nat) : (nats l).length = l.length := List.length_map ..
theorem nats_get (l : List Nat) (j : Nat) (h : j < l.length) : (nats l)[j]? = some (.int .i64 ((l.getD j 0 : Nat) : Int)) := by simp [nats, h]
theorem nats_one (l : List Nat) : ∀ u ∈ nats l, u.oneCell' = true := by
  intro u hu; obtain ⟨n, _, rfl⟩ := List.mem_map.1 hu; rfl
theorem nats_append (a b : List Nat) : nats (a ++ b) = nats a ++ nats b := List.map_append
theorem below_drewN' {w : World} {m : Nat} : Below w.heap.size w (w.drewN m) := below_drewN (Below.refl _ w) m

set_option maxHeartbeats 3200000 in
theorem ints_same (w : World) (v1 v2 : Value) (l : List Nat) (h1 : Rd w 1 v1 l.length (nats l)) (h2 : Rd w 1 v2 l.length (nats l)) :
    Calls Try.prog 9 #[v1, v2] w fun e w' => e = .returned (.bool true) ∧ Below w.heap.size w w' := by
  obtain ⟨hl1, a1, c1, rfl, p1, p2, _, p4⟩ := h1
  obtain ⟨hl2, a2, c2, rfl, q1, q2, _, q4⟩ := h2
  have P4 := Lib.hid p4
  have Q4 := Lib.hid q4
  unfold maxLen at p2 q2
  clear hl1 hl2 p4 q4
  go_enter Try.func9, Try.ntmps9
  go_wp2_with fail
  go_loopw [5] (fun i wr => ∃ k m : Nat, k ≤ l.length ∧ i = .int .i64 k ∧ wr = w.drewN m) (fun i _ => l.length - (intOf i).toNat)
  case atStart => exact ⟨0, 0, by omega, rfl, rfl⟩
  case round =>
    obtain ⟨k, m, hk, rfl, hwr⟩ := hrel
    by_cases hlt : k < l.length
    · obtain ⟨b1, o1, rfl, hc1⟩ := P4.out (by omega)
      obtain ⟨b2, o2, rfl, hc2⟩ := Q4.out (by omega)
      have d1 : wr.cell? ⟨b1, o1 + k, none⟩ = some (.int .i64 ((l.getD k 0 : Nat) : Int)) := by rw [hwr]; exact hc1 k _ (nats_get l k hlt)
      have d2 : wr.cell? ⟨b2, o2 + k, none⟩ = some (.int .i64 ((l.getD k 0 : Nat) : Int)) := by rw [hwr]; exact hc2 k _ (nats_get l k hlt)
      have HWR := Lib.hid hwr
      obtain ⟨x, hx⟩ : ∃ x : Int, x = ((l.getD k 0 : Nat) : Int) := ⟨_, rfl⟩
      rw [← hx] at d1 d2
      have k0 : (0 : Int) ≤ (k : Int) := by omega
      have k1 : (k : Int) < (l.length : Int) := by omega
      clear hc1 hc2 hwr hx
      go_wp2_with fail
      go_region
      go_wp2_with fail
      go_roundw
      case rel => exact ⟨k + 1, m + 1, by omega, by go_num, by rw [HWR.out]; rfl⟩
      case measure => simp [intOf]; omega
    · obtain rfl : k = l.length := by omega
      have HB := Lib.hid (show Below w.heap.size w wr from by rw [hwr]; exact below_drewN')
      clear hwr
      go_wp2_with fail
      go_ret
      exact ⟨rfl, HB.out⟩
set_option maxHeartbeats 3200000 in
theorem strs_same (w : World) (v1 v2 : Value) (l : List ByteArray) (h1 : Rd w 1 v1 l.length (strs l)) (h2 : Rd w 1 v2 l.length (strs l)) :
    Calls Try.prog 10 #[v1, v2] w fun e w' => e = .returned (.bool true) ∧ Below w.heap.size w w' := by
  obtain ⟨hl1, a1, c1, rfl, p1, p2, _, p4⟩ := h1
  obtain ⟨hl2, a2, c2, rfl, q1, q2, _, q4⟩ := h2
  have P4 := Lib.hid p4
  have Q4 := Lib.hid q4
  unfold maxLen at p2 q2
  clear hl1 hl2 p4 q4
  go_enter Try.func10, Try.ntmps10
  go_wp2_with fail
  go_loopw [5] (fun i wr => ∃ k m : Nat, k ≤ l.length ∧ i = .int .i64 k ∧ wr = w.drewN m) (fun i _ => l.length - (intOf i).toNat)
  case atStart => exact ⟨0, 0, by omega, rfl, rfl⟩
  case round =>
    obtain ⟨k, m, hk, rfl, hwr⟩ := hrel
    by_cases hlt : k < l.length
    · obtain ⟨b1, o1, rfl, hc1⟩ := P4.out (by omega)
      obtain ⟨b2, o2, rfl, hc2⟩ := Q4.out (by omega)
      have d1 : wr.cell? ⟨b1, o1 + k, none⟩ = some (.string (l.getD k ByteArray.empty)) := by rw [hwr]; exact hc1 k _ (strs_get l k hlt)
      have d2 : wr.cell? ⟨b2, o2 + k, none⟩ = some (.string (l.getD k ByteArray.empty)) := by rw [hwr]; exact hc2 k _ (strs_get l k hlt)
      have HWR := Lib.hid hwr
      obtain ⟨x, hx⟩ : ∃ x, x = l.getD k ByteArray.empty := ⟨_, rfl⟩
      rw [← hx] at d1 d2
      have k0 : (0 : Int) ≤ (k : Int) := by omega
      have k1 : (k : Int) < (l.length : Int) := by omega
      clear hc1 hc2 hwr hx
      go_wp2_with fail
      go_region
      go_wp2_with fail
      go_roundw
      case rel => exact ⟨k + 1, m + 1, by omega, by go_num, by rw [HWR.out]; rfl⟩
      case measure => simp [intOf]; omega
    · obtain rfl : k = l.length := by omega
      have HB := Lib.hid (show Below w.heap.size w wr from by rw [hwr]; exact below_drewN')
      clear hwr
      go_wp2_with fail
      go_ret
      exact ⟨rfl, HB.out⟩
set_option maxHeartbeats 3200000 in
theorem index_in (w : World) (v : Value) (l : List Nat) (i : Nat) (h : Rd w 1 v l.length (nats l)) :
    Calls Try.prog 17 #[v, .int .i64 (i : Int)] w fun e w' => (∃ x : Int, e = .returned (.int .i64 x) ∧ (0 ≤ x ↔ i ∈ l)) ∧ w' = w := by
  obtain ⟨hl1, a1, c1, rfl, p1, p2, _, p4⟩ := h
  have P4 := Lib.hid p4
  unfold maxLen at p2
  clear hl1 p4
  go_enter Try.func17, Try.ntmps17
  go_wp2_with fail
  go_loopw [8] (fun z wr => ∃ k : Nat, k ≤ l.length ∧ z = .int .i64 k ∧ (∀ j, j < k → l.getD j 0 ≠ i) ∧ wr = w) (fun z _ => l.length - (intOf z).toNat)
  case atStart => exact ⟨0, by omega, rfl, fun j hj => absurd hj (by omega), rfl⟩
  case round =>
    obtain ⟨k, hk, rfl, hno, rfl⟩ := hrel
    by_cases hlt : k < l.length
    · obtain ⟨b1, o1, rfl, hc1⟩ := P4.out (by omega)
      obtain ⟨x, hx⟩ : ∃ x : Nat, x = l.getD k 0 := ⟨_, rfl⟩
      have d1 : wr.cell? ⟨b1, o1 + k, none⟩ = some (.int .i64 (x : Int)) := by rw [hx]; exact hc1 k _ (nats_get l k hlt)
      have HNO := Lib.hid hno
      have HX := Lib.hid hx
      clear hc1 hno hx
      by_cases he : x = i
      · subst he
        have HM := Lib.hid (show x ∈ l from by rw [HX.out]; simp [hlt])
        go_wp2_with fail
        go_ret
        exact ⟨⟨_, rfl, by simp [HM.out]⟩, rfl⟩
      · have he2 : ¬ (i : Int) = (x : Int) := by omega
        go_wp2_with fail
        go_roundw
        case rel => exact ⟨k + 1, by omega, by go_num, fun j hj => by
          rcases Nat.lt_succ_iff_lt_or_eq.1 hj with h | h
          · exact HNO.out j h
          · rw [h, ← HX.out]; exact he, trivial⟩
        case measure => simp [intOf]; omega
    · obtain rfl : k = l.length := by omega
      have HM := Lib.hid (show i ∉ l from fun hm => by
        obtain ⟨j, hj, hji⟩ := List.getElem_of_mem hm
        exact hno j hj (by simp [hj, hji]))
      clear hno
      go_wp2_with fail
      go_ret
      exact ⟨⟨_, rfl, by simp [HM.out]⟩, rfl⟩

set_option maxHeartbeats 3200000 in
theorem contains_in (w : World) (v : Value) (l : List Nat) (i : Nat) (h : Rd w 1 v l.length (nats l)) :
    Calls Try.prog 16 #[v, .int .i64 (i : Int)] w fun e w' => e = .returned (.bool (decide (i ∈ l))) ∧ w' = w := by
  have H := Lib.hid (index_in w v l i h)
  clear h
  go_enter Try.func16, Try.ntmps16
  go_wp2_with fail
  refine H.out.mono ?_
  rintro e w1 ⟨⟨x, rfl, hx⟩, rfl⟩
  have HX := Lib.hid hx
  clear hx
  go_wp2_with fail
  all_goals (try go_ret)
  all_goals exact ⟨by simp [← HX.out]; try omega, rfl⟩

/-- n modules lie at a. -/
structure ModsAt (w : World) (a : Option Addr) (n cap : Nat) (M : Nat → Md) : Prop where
  le : n ≤ cap
  cap63 : cap ≤ 9223372036854775807
  cells : 0 < n → ∃ ab ao, a = some ⟨ab, ao, none⟩ ∧ ∀ i, i < n → ∃ iv, Rd w 1 iv (M i).imps.length (strs (M i).imps) ∧ (w.cell? ⟨ab, ao + i * 8, none⟩ = some (.string (M i).name) ∧ w.cell? ⟨ab, ao + i * 8 + 1, none⟩ = some iv ∧
    w.cell? ⟨ab, ao + i * 8 + 2, none⟩ = some (.slice none 0 0) ∧ w.cell? ⟨ab, ao + i * 8 + 3, none⟩ = some (.slice none 0 0) ∧ w.cell? ⟨ab, ao + i * 8 + 4, none⟩ = some (.slice none 0 0) ∧
    w.cell? ⟨ab, ao + i * 8 + 5, none⟩ = some (.slice none 0 0) ∧ w.cell? ⟨ab, ao + i * 8 + 6, none⟩ = some (.slice none 0 0) ∧ w.cell? ⟨ab, ao + i * 8 + 7, none⟩ = some (.slice none 0 0))
  small : ∀ i, i < n → (M i).imps.length ≤ 1000
  names : ∀ i, i < n → (M i).name.size ≤ 1000
  inames : ∀ i, i < n → ∀ s ∈ (M i).imps, s.size ≤ 1000
theorem ModsAt.below {w w' : World} {a : Option Addr} {n cap B : Nat} {M : Nat → Md} (h : ModsAt w a n cap M) (hb : Below B w w') (hB : w.heap.size ≤ B) : ModsAt w' a n cap M :=
  ⟨h.le, h.cap63, fun hn => by
    obtain ⟨ab, ao, ha, hc⟩ := h.cells hn
    refine ⟨ab, ao, ha, fun i hi => ?_⟩
    obtain ⟨iv, hr, h0, h1, h2, h3, h4, h5, h6, h7⟩ := hc i hi
    exact ⟨iv, hr.below hb hB, cell_below hb hB h0, cell_below hb hB h1, cell_below hb hB h2, cell_below hb hB h3, cell_below hb hB h4, cell_below hb hB h5, cell_below hb hB h6, cell_below hb hB h7⟩, h.small, h.names, h.inames⟩
/-- The first of n modules that is called s; -1: none. -/
def atF (M : Nat → Md) (s : ByteArray) : Nat → Nat → Int
  | 0, _ => -1
  | f + 1, k => if (M k).name.toList = s.toList then (k : Int) else atF M s f (k + 1)
def atN (M : Nat → Md) (n : Nat) (s : ByteArray) : Int := atF M s n 0

set_option maxHeartbeats 3200000 in
theorem at_ref (w : World) (a : Option Addr) (n cap : Nat) (M : Nat → Md) (s : ByteArray) (hp : ModsAt w a n cap M) :
    Calls Try.prog 14 #[.slice a n cap, .string s] w fun e w' => e = .returned (.int .i64 (atN M n s)) ∧ w' = w := by
  have hle := hp.le
  have hcap := hp.cap63
  have HP := Lib.hid hp.cells
  clear hp
  go_enter Try.func14, Try.ntmps14
  go_wp2_with fail
  go_loopw [5] (fun z wr => ∃ k : Nat, k ≤ n ∧ z = .int .i64 k ∧ atN M n s = atF M s (n - k) k ∧ wr = w) (fun z _ => n - (intOf z).toNat)
  case atStart => exact ⟨0, by omega, rfl, rfl, rfl⟩
  case round =>
    obtain ⟨k, hk, rfl, hat, rfl⟩ := hrel
    by_cases hlt : k < n
    · obtain ⟨ab, ao, rfl, hc⟩ := HP.out (by omega)
      obtain ⟨iv, hr, h0, _⟩ := hc k hlt
      obtain ⟨x, hx⟩ : ∃ x, x = (M k).name := ⟨_, rfl⟩
      rw [← hx] at h0
      have e1 : n - k = (n - (k + 1)) + 1 := by omega
      rw [e1] at hat
      have HA := Lib.hid (show atN M n s = if x.toList = s.toList then (k : Int) else atF M s (n - (k + 1)) (k + 1) from by rw [hat, hx]; rfl)
      clear hat hx hc hr e1
      by_cases he : x.toList = s.toList
      · have HA2 := Lib.hid (show atN M n s = (k : Int) from by rw [HA.out, if_pos he])
        go_wp2_with fail
        go_ret
        exact ⟨by rw [HA2.out]; rfl, rfl⟩
      · have HA2 := Lib.hid (show atN M n s = atF M s (n - (k + 1)) (k + 1) from by rw [HA.out, if_neg he])
        replace he : (x.toList == s.toList) = false := by simpa using he
        go_wp2_with fail
        go_roundw
        case rel => exact ⟨k + 1, by omega, by go_num, HA2.out, trivial⟩
        case measure => simp [intOf]; omega
    · obtain rfl : k = n := by omega
      have HA := Lib.hid (show atN M k s = -1 from by rw [hat, Nat.sub_self]; rfl)
      clear hat
      go_wp2_with fail
      go_ret
      exact ⟨by rw [HA.out]; rfl, rfl⟩
end Go.Proofs.Ytelpnbjnjfajdaa
