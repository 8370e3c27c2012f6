/- Contracts of package mtf and of its references. -/
import Derived.Test.YtmdhiigonlnoiaaChecked
import Derived.Test.YtmdhiigonlnoiaaLib
import Derived.Test.YtmdhiigonlnoiaaMem3
import Derived.Deep.DeepCutAuto
import Derived.RegionTactic
import Derived.ChangeAlike
import Derived.BigRegion
import Derived.Deep.QuietTactic
import Derived.BigQuiet
import Derived.Deep.RegionLaw
import Derived.Laws.CopyOwn
import Derived.Laws.OwnMore
import Derived.Lib.SliceRun
namespace Go.Proofs.Ytmdhiigonlnoiaa
open Go.RowKit Go.Waf
set_option maxRecDepth 100000
set_option linter.unusedVariables false

theorem elemInt : Elem Try.prog 37 3 1 8 := Elem.mk' (z := .int .i64 0) Try.underlying37 (by kernel_rfl) rfl (by decide)
theorem infoInt : ∃ i, (Try.prog).info? 3 = some i ∧ i.zero = some (.int .i64 0) ∧ i.size = 1 ∧ i.bytes = 8 := by
  obtain ⟨i, z, h1, h2, h3, h4, h5⟩ := elemInt.info
  refine ⟨i, h1, ?_, h3, h4⟩
  have e : ((Try.prog).info? 3).map (fun i => i.zero) = some (some (.int .i64 0)) := by kernel_rfl
  rw [h1] at e
  simpa using e
def ints (xs : List Int) : List Value := xs.map (Value.int .i64)
theorem one_ints (xs : List Int) : ∀ u ∈ ints xs, u.oneCell' = true := by
  intro u hu; obtain ⟨n, _, rfl⟩ := List.mem_map.1 hu; rfl
theorem ints_append (xs ys : List Int) : ints (xs ++ ys) = ints xs ++ ints ys := List.map_append
theorem ints_length (xs : List Int) : (ints xs).length = xs.length := List.length_map ..
theorem ints_get (xs : List Int) (j : Nat) (h : j < xs.length) : (ints xs)[j]? = some (.int .i64 (xs.getD j 0)) := by simp [ints, h]
theorem ints_set (xs : List Int) (j : Nat) (u : Int) : (ints xs).set j (.int .i64 u) = ints (xs.set j u) := by simp [ints, List.map_set]
/-- Numbers from 0 on. -/
def first (n : Nat) : List Int := (List.range n).map fun k : Nat => (k : Int)
theorem first_succ (k : Nat) : first (k + 1) = first k ++ [(k : Int)] := by simp [first, List.range_succ]
theorem first_length (n : Nat) : (first n).length = n := by simp [first]
/-- What stands at i stands first. -/
def front (L : List Int) (i : Nat) : List Int := L.getD i 0 :: (L.take i ++ L.drop (i + 1))
theorem front_length (L : List Int) (i : Nat) (h : i < L.length) : (front L i).length = L.length := by simp [front]; omega
theorem front_mem (L : List Int) (i : Nat) (h : i < L.length) (x : Int) (hx : x ∈ L) : x ∈ front L i := by
  have e : L = L.take i ++ (L.getD i 0 :: L.drop (i + 1)) := by
    have : L.getD i 0 = L[i] := by simp [List.getD, h]
    rw [this, List.getElem_cons_drop, List.take_append_drop]
  rw [e] at hx
  simp only [List.mem_append, List.mem_cons] at hx
  simp only [front, List.mem_append, List.mem_cons]
  rcases hx with h | h | h
  · exact .inr (.inl h)
  · exact .inl h
  · exact .inr (.inr h)
/-- Where a number stands first; the length, if nowhere. -/
def rankOf (L : List Int) (x : Int) : Nat := L.findIdx (· == x)
theorem rankOf_le (L : List Int) (x : Int) : rankOf L x ≤ L.length := List.findIdx_le_length
theorem rankOf_at (L : List Int) (x : Int) (h : rankOf L x < L.length) : L.getD (rankOf L x) 0 = x := by
  have h1 := List.findIdx_getElem (xs := L) (p := (· == x)) (w := h)
  have h2 : L.getD (rankOf L x) 0 = L[rankOf L x] := by simp [List.getD, h]
  rw [h2]; exact eq_of_beq h1
theorem rankOf_before (L : List Int) (x : Int) (i : Nat) (h : i < rankOf L x) : (L.getD i 0 == x) = false := by
  have hl : i < L.length := Nat.lt_of_lt_of_le h (rankOf_le L x)
  have h1 := List.not_of_lt_findIdx (xs := L) (p := (· == x)) h
  have h2 : L.getD i 0 = L[i] := by simp [List.getD, hl]
  rw [h2]; simpa using h1
theorem rankOf_mem (L : List Int) (x : Int) (h : x ∈ L) : rankOf L x < L.length := List.findIdx_lt_length_of_exists ⟨x, h, by simp⟩

/-- A list at block g: its row v, its numbers L. -/
structure MtAt (w : World) (B g : Nat) (v : Value) (L : List Int) : Prop where
  blk : w.heap[g]? = some (.cells #[v] 101 (0, 0))
  row : w.ownsRow B 3 1 v L.length (ints L)
  base : B ≤ g
  ne : v.ownBlock ≠ some g
theorem MtAt.fr {F : Nat → Prop} {w w' : World} {B g : Nat} {v : Value} {L : List Int} (h : MtAt w B g v L) (hf : Fr F w w') (h1 : ¬ F g) (h2 : ∀ k, v.ownBlock = some k → ¬ F k) : MtAt w' B g v L :=
  ⟨by rw [hf.block g (Array.getElem?_eq_some_iff.1 h.blk).1 h1]; exact h.blk, hf.owns h.row h2, h.base, h.ne⟩
theorem MtAt.keep {w w' : World} {B g C : Nat} {v : Value} {L : List Int} (h : MtAt w B g v L) (hb : Below C w w') (hC : w.heap.size ≤ C) : MtAt w' B g v L :=
  h.fr (F := fun _ => False) (Fr.of_new (hb.mono hC)) (fun h => h) (fun _ _ h => h)
theorem MtAt.blt {w : World} {B g : Nat} {v : Value} {L : List Int} (h : MtAt w B g v L) : g < w.heap.size := (Array.getElem?_eq_some_iff.1 h.blk).1

/-- copy, as one step of a region that draws its order; only its row has turned. -/
theorem step_copy_fr {P : Program} {ops : Array Oper} {o : Oper} {a : Act} {w : World} {K : Act → World → Prop} {Q : Exit → Act → World → Prop} {E : Prop} (hgd : o.guard = none) (d s : Operand) (dT sT : TypeId)
    (ho : o.op = .call { callee := .builtin .copy, args := #[d, s], argTypes := #[dT, sT] }) (elem : TypeId) (hu : P.underlying dT = some (.slice elem)) (hsz : (P.info? elem).map (·.size) = some 1)
    (dp sp : Option Addr) (dLen dCap sLen sCap : Nat) (hd : a.eval d = .slice dp dLen dCap) (hs : a.eval s = .slice sp sLen sCap)
    (g off : Nat) (cur : List Value) (t : TypeId) (hg : w.heap[g]? = some (.cells cur.toArray t (0, 0))) (cs : List Value) (hn : cs.length = Nat.min sLen dLen)
    (hpos : 0 < cs.length → dp = some ⟨g, off, none⟩ ∧ ∃ ad, sp = some ad ∧ ∀ j v, cs[j]? = some v → w.cell? (ad.add j) = some v)
    (hfit : off + cs.length ≤ cur.length) (h1 : ∀ v ∈ cs, v.oneCell' = true)
    (h : ∀ w', RowKit.Hid (w'.heap[g]? = some (.cells (splice cur off cs).toArray t (0, 0))) → RowKit.Hid (Fr (fun k => k = g) w w') → K (a.put o.dst (goInt cs.length)) w') :
    if Region.wanted o (yielded ops a.tmps) = true then Oper.wp P o a w K Q else E := by
  have hw : Region.wanted o (yielded ops a.tmps) = true := by simp [Region.wanted, hgd]
  rw [if_pos hw]
  by_cases h0 : cs.length = 0
  · obtain rfl : cs = [] := List.eq_nil_of_length_eq_zero h0
    have hrun := run_copy_none (P := P) w dT sT o.type elem dp sp dLen dCap sLen sCap hu hsz (by simpa using hn.symm)
    unfold Oper.wp
    simp [execOp, ho, resolve, invoke, builtin, hd, hs, hrun, Result.andThen]
    exact h w (show _ = _ by simpa [splice] using hg) (Fr.refl _ _)
  · obtain ⟨rfl, ad, rfl, hsrc⟩ := hpos (by omega)
    have hrun := run_copy_row (P := P) w dT sT o.type elem g off dLen dCap ad sLen sCap cur.toArray t cs hu hsz hg hn hsrc (by simpa using hfit) h1
    unfold Oper.wp
    simp [execOp, ho, resolve, invoke, builtin, hd, hs, hrun, Result.andThen]
    exact h _ (show _ = _ by simpa [splice] using setRow_heap w g _ _ t _ hg) ⟨rfl, rfl, rfl, by simp [World.setRow], fun k hk hne => setRow_other w g k _ hne⟩

theorem ownRet_mono {B e size n : Nat} {cs : List Value} {P : Program} {f : FuncId} {args : Array Value} {w : World} (h : Calls P f args w (OwnRet B e size n cs w)) (R : Ending → World → Prop) (hR : ∀ v w', w'.ownsRow B e size v n cs → Below B w w' → R (.returned v) w') : Calls P f args w R :=
  h.mono fun _ _ ⟨v, he, h1, h2⟩ => he ▸ hR v _ h1 h2
theorem Rd_at {w : World} {size n cap : Nat} {a : Option Addr} {cs : List Value} (h : Rd w size (.slice a n cap) n cs) (hn : 0 < n) : ∃ b off, a = some ⟨b, off, none⟩ ∧ ∀ j u, cs[j]? = some u → w.cell? ⟨b, off + j, none⟩ = some u := by
  obtain ⟨_, a', cap', he, _, _, _, h4⟩ := h
  cases he
  exact h4 hn

theorem cloneI_any (w : World) (v : Value) (n : Nat) (xs : List Int) (hr : Rd w 1 v n (ints xs)) (hn : n ≤ 1000000) :
    Calls Try.prog 54 #[v] w (OwnRet w.heap.size 3 1 n (ints xs) w) := by
  have hown := (World.ownsRow_made (base := w.heap.size) (e := 3) (size := 1) w #[] 0 (Nat.le_refl _) (by simp [maxLen]) rfl)
  have hr2 := hr.below (Below.alloc (Below.refl w.heap.size w) (Nat.le_refl _) (.cells #[] 3)) (Nat.le_refl _)
  have HR := Lib.hid hr2
  have qn := fun (w : World) (a : Option Addr) (n c n' c' : Nat) => Lib.run_eql_slice_nil (P := Try.prog) w _ _ a n c n' c' Try.underlying37
  clear hr2
  obtain ⟨hl, a, cap, rfl, h1, h2, h3, h4⟩ := hr
  have H4 := Lib.hid h4
  clear h4
  cases a with
  | none =>
    have : cap = 0 := h3 rfl
    obtain rfl : n = 0 := by omega
    obtain rfl : xs = [] := List.eq_nil_of_length_eq_zero (by simpa [ints] using hl)
    subst this
    clear H4 HR hown
    go_enter Try.func54, Try.ntmps54
    go_wp2
    go_ret
    exact ⟨_, rfl, World.ownsRow_nil _ _ _ _, Below.refl _ _⟩
  | some a =>
    clear hl h3
    go_enter Try.func54, Try.ntmps54
    go_wp2_with (at_builtin; refine app_own _ elemInt rfl _ _ rfl w.heap.size _ 0 [] rfl hown _ n (ints xs) rfl HR.out (one_ints _) (by simp only [maxLen]; omega) (by omega) (by simp) ?_; intro v' w1 hown1 hg1)
    go_ret
    exact ⟨v', rfl, by simpa using hown1, below_of_grown ((Below.refl _ _).alloc (Nat.le_refl _) _) (by simp) hown (Nat.le_refl _) rfl hg1⟩

set_option maxHeartbeats 800000 in
theorem index_any (w : World) (v : Value) (n : Nat) (L : List Int) (hr : Rd w 1 v n (ints L)) (x : Int) :
    Calls Try.prog 53 #[v, .int .i64 x] w fun e w' => e = .returned (.int .i64 (if rankOf L x < n then (rankOf L x : Int) else -1)) ∧ w = w' := by
  have hlen : L.length = n := by have := hr.1; simpa [ints] using this
  obtain ⟨K, hK⟩ : ∃ K, K = rankOf L x := ⟨_, rfl⟩
  have hKn : K ≤ n := by rw [hK, ← hlen]; exact rankOf_le L x
  rw [← hK]
  obtain ⟨a, cap, rfl, c1, c2, c3⟩ := rd_shape hr
  have R := Lib.hid hr
  have HL := Lib.hid hlen
  have HK := Lib.hid hK
  clear hr hlen hK
  unfold maxLen at c2
  go_enter Try.func53, Try.ntmps53
  go_wp2_with fail
  go_loop [8] (fun i => ∃ k : Nat, k ≤ K ∧ i = .int .i64 (k : Int)) (fun i => n - (intOf i).toNat)
  case atStart => exact ⟨0, by omega, rfl⟩
  case round =>
    obtain ⟨k, hk, rfl⟩ := hrel
    by_cases hlt : k < n
    · obtain ⟨ab, ao, rfl, hc⟩ := Rd_at R.out (by omega)
      have cin : w.cell? ⟨ab, ao + k, none⟩ = some (.int .i64 (L.getD k 0)) := hc k _ (ints_get L k (by rw [HL.out]; exact hlt))
      obtain ⟨c, hcd⟩ : ∃ c, c = L.getD k 0 := ⟨_, rfl⟩
      rw [← hcd] at cin
      clear hc
      by_cases he : k = K
      · have hx : c = x := by rw [hcd, he, HK.out]; exact rankOf_at L x (by rw [← HK.out, HL.out]; omega)
        have q : (c == x) = true := by simp [hx]
        have q2 : (x == c) = true := by simp [hx]
        subst he
        clear hx hcd
        go_wp2_with fail
        go_ret
        exact ⟨rfl, rfl⟩
      · have q : (c == x) = false := by rw [hcd]; exact rankOf_before L x k (by rw [← HK.out]; omega)
        have q2 : (x == c) = false := by rw [← q]; exact Bool.eq_iff_iff.2 ⟨fun h => by simpa using (eq_of_beq h).symm, fun h => by simpa using (eq_of_beq h).symm⟩
        clear hcd
        go_wp2_with fail
        go_round
        case rel => exact ⟨k + 1, by omega, by go_num⟩
        case measure => simp [intOf]; omega
    · obtain rfl : k = n := by omega
      obtain rfl : K = k := by omega
      go_wp2_with fail
      go_ret
      exact ⟨rfl, rfl⟩

set_option maxHeartbeats 800000 in
theorem rat_any (w : World) (v : Value) (n : Nat) (L : List Int) (hr : Rd w 1 v n (ints L)) (x : Int) :
    Calls Try.prog 35 #[v, .int .i64 x] w fun e w' => e = .returned (.int .i64 (if rankOf L x < n then (rankOf L x : Int) else -1)) ∧ w = w' := by
  have hlen : L.length = n := by have := hr.1; simpa [ints] using this
  obtain ⟨K, hK⟩ : ∃ K, K = rankOf L x := ⟨_, rfl⟩
  have hKn : K ≤ n := by rw [hK, ← hlen]; exact rankOf_le L x
  rw [← hK]
  obtain ⟨a, cap, rfl, c1, c2, c3⟩ := rd_shape hr
  have R := Lib.hid hr
  have HL := Lib.hid hlen
  have HK := Lib.hid hK
  clear hr hlen hK
  unfold maxLen at c2
  go_enter Try.func35, Try.ntmps35
  go_wp2_with fail
  go_loop [5] (fun i => ∃ k : Nat, k ≤ K ∧ i = .int .i64 (k : Int)) (fun i => n - (intOf i).toNat)
  case atStart => exact ⟨0, by omega, rfl⟩
  case round =>
    obtain ⟨k, hk, rfl⟩ := hrel
    by_cases hlt : k < n
    · obtain ⟨ab, ao, rfl, hc⟩ := Rd_at R.out (by omega)
      have cin : w.cell? ⟨ab, ao + k, none⟩ = some (.int .i64 (L.getD k 0)) := hc k _ (ints_get L k (by rw [HL.out]; exact hlt))
      obtain ⟨c, hcd⟩ : ∃ c, c = L.getD k 0 := ⟨_, rfl⟩
      rw [← hcd] at cin
      clear hc
      by_cases he : k = K
      · have hx : c = x := by rw [hcd, he, HK.out]; exact rankOf_at L x (by rw [← HK.out, HL.out]; omega)
        have q : (c == x) = true := by simp [hx]
        have q2 : (x == c) = true := by simp [hx]
        subst he
        clear hx hcd
        go_wp2_with fail
        go_ret
        exact ⟨rfl, rfl⟩
      · have q : (c == x) = false := by rw [hcd]; exact rankOf_before L x k (by rw [← HK.out]; omega)
        have q2 : (x == c) = false := by rw [← q]; exact Bool.eq_iff_iff.2 ⟨fun h => by simpa using (eq_of_beq h).symm, fun h => by simpa using (eq_of_beq h).symm⟩
        clear hcd
        go_wp2_with fail
        go_round
        case rel => exact ⟨k + 1, by omega, by go_num⟩
        case measure => simp [intOf]; omega
    · obtain rfl : k = n := by omega
      obtain rfl : K = k := by omega
      go_wp2_with fail
      go_ret
      exact ⟨rfl, rfl⟩

set_option maxHeartbeats 800000 in
theorem ints_same (w : World) (v v' : Value) (n : Nat) (L : List Int) (hr : Rd w 1 v n (ints L)) (hr' : Rd w 1 v' n (ints L)) :
    Calls Try.prog 36 #[v, v'] w fun e w' => e = .returned (.bool true) ∧ ∃ m, w' = w.drewN m := by
  have hlen : L.length = n := by have := hr.1; simpa [ints] using this
  obtain ⟨a, cap, rfl, c1, c2, c3⟩ := rd_shape hr
  obtain ⟨b, cap', rfl, d1, d2, d3⟩ := rd_shape hr'
  have R := Lib.hid hr
  have R' := Lib.hid hr'
  have HL := Lib.hid hlen
  clear hr hr' hlen
  unfold maxLen at c2 d2
  go_enter Try.func36, Try.ntmps36
  go_wp2_with fail
  go_loopw [5] (fun i wr => ∃ k m : Nat, k ≤ n ∧ i = .int .i64 (k : Int) ∧ wr = w.drewN m) (fun i _ => n - (intOf i).toNat)
  case atStart => exact ⟨0, 0, by omega, rfl, rfl⟩
  case round =>
    obtain ⟨k, m, hk, rfl, rfl⟩ := hrel
    by_cases hlt : k < n
    · obtain ⟨ab, ao, rfl, hc⟩ := Rd_at R.out (by omega)
      obtain ⟨bb, bo, rfl, hd⟩ := Rd_at R'.out (by omega)
      have cin : w.cell? ⟨ab, ao + k, none⟩ = some (.int .i64 (L.getD k 0)) := hc k _ (ints_get L k (by rw [HL.out]; exact hlt))
      have din : w.cell? ⟨bb, bo + k, none⟩ = some (.int .i64 (L.getD k 0)) := hd k _ (ints_get L k (by rw [HL.out]; exact hlt))
      obtain ⟨c, hcd⟩ : ∃ c, c = L.getD k 0 := ⟨_, rfl⟩
      rw [← hcd] at cin din
      clear hc hd hcd
      go_wp2_with fail
      go_quiet (fail)
      go_wp2_with fail
      go_roundw
      case rel => exact ⟨k + 1, _, by omega, by go_num, rfl⟩
      case measure => simp [intOf]; omega
    · obtain rfl : k = n := by omega
      go_wp2_with fail
      go_ret
      exact ⟨rfl, m, rfl⟩

set_option maxHeartbeats 800000 in
theorem mnew_any (w : World) (n : Int) (N : Nat) (hN : (n < 0 ∧ N = 0) ∨ (n = N ∧ N < 65536)) :
    Calls Try.prog 29 #[.int .i64 n] w fun e w' => ∃ g v, e = .returned (.pointer (some ⟨g, 0, none⟩)) ∧ MtAt w' w.heap.size g v (first N) ∧ Below w.heap.size w w' := by
  have hb0 := (Below.refl w.heap.size w).alloc (Nat.le_refl _) (Obj.cells #[Value.slice none 0 0] 101)
  have hm0 : MtAt (w.alloc (Obj.cells #[Value.slice none 0 0] 101)) w.heap.size w.heap.size (.slice none 0 0) (first 0) :=
    ⟨heap_alloc_new w _, World.ownsRow_nil _ _ _ _, Nat.le_refl _, by simp [Value.ownBlock]⟩
  have HB0 := Lib.hid hb0
  have HM0 := Lib.hid hm0
  clear hb0 hm0
  rcases hN with ⟨h, rfl⟩ | ⟨rfl, h⟩
  · go_enter Try.func29, Try.ntmps29
    go_wp2_with fail
    refine wp_loop_once ?_
    go_wp2_with fail
    go_ret
    exact ⟨_, _, rfl, HM0.out, HB0.out⟩
  · go_enter Try.func29, Try.ntmps29
    go_wp2_with fail
    go_loopw [10] (fun i wr => ∃ (k : Nat) (v : Value), k ≤ N ∧ i = .int .i64 (k : Int) ∧ MtAt wr w.heap.size w.heap.size v (first k) ∧ Below w.heap.size w wr) (fun i _ => N - (intOf i).toNat)
    case atStart => exact ⟨0, _, by omega, rfl, HM0.out, HB0.out⟩
    case round =>
      obtain ⟨k, v, hk, rfl, hM, hb⟩ := hrel
      have hsz := hb.size
      have hgs := hM.blt
      have c0 : wr.cell? ⟨w.heap.size, 0, none⟩ = some v := by rw [cell_of_row wr _ 0 _ _ _ hM.blk]; rfl
      have HM := Lib.hid hM
      have HB := Lib.hid hb
      clear hM hb
      by_cases hlt : k < N
      · have hrow : wr.ownsRow w.heap.size 3 1 v k (ints (first k)) := by have := HM.out.row; rwa [first_length] at this
        have hrow2 := hrow.alloc (.cells (ints [(k : Int)]).toArray 3)
        have hne := HM.out.ne
        have hblk := HM.out.blk
        have HROW := Lib.hid hrow
        have HROW2 := Lib.hid hrow2
        have HNE := Lib.hid hne
        have HBLK := Lib.hid hblk
        clear hrow hrow2 hne hblk
        go_wp2_with (at_builtin; refine app_own2 _ elemInt rfl _ _ rfl w.heap.size v k (ints (first k)) rfl HROW2.out _ 1 (ints [(k : Int)]) rfl (rd_new _ _ _ _ _ (by simp) (by simp [maxLen])) (one_ints _) (by simp only [maxLen]; omega) (by omega) (by simp; omega) ?_; intro v' w1 hown1 hg1 hfr1; obtain ⟨h1, cap1, rfl, _, _, _, _⟩ := owns_some hown1 (by omega); have hb1 := blk_grown (blk_alloc HBLK.out _) hg1 HNE.out; have c0' : w1.cell? ⟨w.heap.size, 0, none⟩ = some v := by { rw [cell_of_row w1 _ 0 _ _ _ hb1]; rfl }; have f0' := frozen_of_row w1 w.heap.size 0 _ _ hb1)
        go_roundw
        case rel =>
          have hne' : (Value.slice (some ⟨h1, 0, none⟩) (k + 1) cap1).ownBlock ≠ some w.heap.size := by
            intro e
            rcases hfr1 _ e with h2 | h2
            · exact HNE.out h2
            · simp at h2; omega
          refine ⟨k + 1, _, by omega, by go_num, ⟨?_, ?_, Nat.le_refl _, hne'⟩, ?_⟩
          · rw [heap_setCell_same w1 w.heap.size 0 _ _ _ hb1]; rfl
          · rw [first_length, first_succ, ints_append]
            exact owns_set_other hown1 _ _ (by simpa using hne')
          · exact (below_of_grown (HB.out.alloc (by omega) _) (by simp; omega) HROW2.out (Nat.le_refl _) rfl hg1).setCell (Nat.le_refl _) _
        case measure => simp [intOf]; omega
      · obtain rfl : k = N := by omega
        go_wp2_with fail
        go_ret
        exact ⟨_, v, rfl, HM.out, HB.out⟩

theorem all_any (w : World) (B g : Nat) (v : Value) (L : List Int) (h : MtAt w B g v L) (hl : L.length ≤ 1000000) :
    Calls Try.prog 37 #[.pointer (some ⟨g, 0, none⟩)] w (OwnRet w.heap.size 3 1 L.length (ints L) w) := by
  have c0 : w.cell? ⟨g, 0, none⟩ = some v := by rw [cell_of_row w g 0 _ _ _ h.blk]; rfl
  have R := Lib.hid (rd_of_owns h.row)
  clear h
  go_enter Try.func37, Try.ntmps37
  go_wp2_with fail
  refine ownRet_mono (cloneI_any _ _ _ _ R.out hl) _ ?_
  intro p w1 ho hb
  go_wp2_with fail
  go_ret
  exact ⟨p, rfl, ho, hb⟩

theorem mat_no (w : World) (B g : Nat) (v : Value) (L : List Int) (h : MtAt w B g v L) (i : Int) (hi : i < 0 ∨ (L.length : Int) ≤ i) :
    Calls Try.prog 32 #[.pointer (some ⟨g, 0, none⟩), .int .i64 i] w fun e w' => e = .returned (.tuple #[.int .i64 0, .bool false]) ∧ w = w' := by
  obtain ⟨va, vc, rfl, _, _, _⟩ := owns_shape h.row
  have c0 : w.cell? ⟨g, 0, none⟩ = some (.slice va L.length vc) := by rw [cell_of_row w g 0 _ _ _ h.blk]; rfl
  clear h
  by_cases h0 : i < 0
  · go_enter Try.func32, Try.ntmps32
    go_wp2_with fail
    go_ret2
    exact ⟨rfl, rfl⟩
  · have h1 : (L.length : Int) ≤ i := by omega
    clear hi
    go_enter Try.func32, Try.ntmps32
    go_wp2_with fail
    go_ret2
    exact ⟨rfl, rfl⟩

theorem splice_front (cur : List Value) (L : List Int) (i : Nat) (hi : i < L.length) (hc : cur.take L.length = ints L) :
    ((splice cur 1 (ints (L.take i))).take L.length).set 0 (.int .i64 (L.getD i 0)) = ints (front L i) := by
  have hl : L.length ≤ cur.length := by
    have := congrArg List.length hc
    simp [ints] at this; omega
  have e : (splice cur 1 (ints (L.take i))).take L.length = splice (ints L) 1 (ints (L.take i)) := by
    rw [← hc]
    apply List.ext_getElem?
    intro j
    simp only [splice, List.getElem?_take, List.getElem?_append, List.length_take, List.getElem?_drop, ints_length]
    have h1 : min 1 cur.length = 1 := by omega
    have h2 : min 1 (min L.length cur.length) = 1 := by omega
    have h3 : min i L.length = i := by omega
    rw [h1, h2, h3]
    by_cases hj : j < L.length
    · rw [if_pos hj]
      by_cases hj1 : j < 1
      · simp [hj1, hj]
      · simp only [hj1, if_false]
        by_cases hj2 : j - 1 < i
        · simp [hj2]
        · simp only [hj2, if_false]
          rw [if_pos (by omega)]
    · rw [if_neg hj]
      have : ¬ j < 1 := by omega
      have : ¬ j - 1 < i := by omega
      simp [*]
      intro h; omega
  rw [e]
  cases L with
  | nil => simp at hi
  | cons x xs =>
    have hm : min i (xs.length + 1) = i := by simp at hi; omega
    simp [splice, ints, front, List.map_take, List.map_drop, hm, Nat.add_comm 1 i]

theorem at_first (w4 : World) (q cap : Nat) (cur cur' : List Value) (hl : cur'.length = cap) (hc : 0 < cap) (hb4 : w4.heap[q]? = some (.cells cur'.toArray 3 (0, 0))) : ∃ x, w4.cell? ⟨q, 0, none⟩ = some x := by
  rw [cell_of_row w4 q 0 _ _ _ hb4]
  exact ⟨cur'[0]'(by omega), by simp [show 0 < cur'.length by omega]⟩
theorem at_close (w w4 : World) (B g q n cap : Nat) (c : Int) (cur : List Value) (L : List Int) (i : Nat) (hi : i < n) (hM : MtAt w B g (.slice (some ⟨q, 0, none⟩) n cap) L) (hn : n = L.length) (hsz : cur.length = cap) (htk : cur.take n = ints L) (hcd : c = L.getD i 0) (hqg : q ≠ g)
    (hb4 : w4.heap[q]? = some (.cells (splice cur 1 (ints (L.take i))).toArray 3 (0, 0))) (hf4 : Fr (fun k => k = q) w w4) :
    MtAt (w4.setCell ⟨q, 0, none⟩ (.int .i64 c)) B g (.slice (some ⟨q, 0, none⟩) n cap) (front L i) ∧ Fr (fun k => (Value.slice (some ⟨q, 0, none⟩) n cap).ownBlock = some k) w (w4.setCell ⟨q, 0, none⟩ (.int .i64 c)) := by
  subst hn
  have hl : (front L i).length = L.length := front_length L i hi
  obtain ⟨_, cap', hv, hBq, hqs, hc1, hc2⟩ := owns_some hM.row (by omega)
  cases hv
  have hcurl : (ints (L.take i)).length = i := by rw [ints_length, List.length_take]; omega
  have hsl : (splice cur 1 (ints (L.take i))).length = cap := by rw [length_splice _ _ _ (by rw [hcurl, hsz]; omega), hsz]
  refine ⟨⟨?_, ?_, hM.base, hM.ne⟩, ?_⟩
  · rw [Below.heap_setCell w4 _ _ _ (fun e => hqg e.symm), hf4.block g hM.blt (fun e => hqg e.symm)]
    exact hM.blk
  · rw [hl]
    have ho : w4.ownsRow B 3 1 (.slice (some ⟨q, 0, none⟩) L.length cap) L.length ((splice cur 1 (ints (L.take i))).take L.length) :=
      ⟨by rw [List.length_take, hsl]; omega, .inr ⟨q, cap, _, rfl, hBq, hb4, hc1, by simp only [maxLen]; omega, by simpa using hsl, by simp⟩⟩
    have hst := (ho.stored 0 (.int .i64 c)).1
    rw [hcd, splice_front cur L i hi htk] at hst
    rw [hcd]
    exact hst
  · refine (hf4.mono (fun k _ hk => by simp [Value.ownBlock, hk])).setCell (.inr (by simp [Value.ownBlock])) _

set_option maxHeartbeats 1600000 in
theorem mat_yes (w : World) (B g : Nat) (v : Value) (L : List Int) (h : MtAt w B g v L) (i : Nat) (hi : i < L.length) :
    Calls Try.prog 32 #[.pointer (some ⟨g, 0, none⟩), .int .i64 i] w fun e w' => e = .returned (.tuple #[.int .i64 (L.getD i 0), .bool true]) ∧ MtAt w' B g v (front L i) ∧ Fr (fun k => v.ownBlock = some k) w w' := by
  obtain ⟨n, hn⟩ : ∃ n, n = L.length := ⟨_, rfl⟩
  obtain ⟨q, cap, rfl, hBq, hqs, hc1, hc2⟩ := owns_some h.row (by omega)
  have hqg : q ≠ g := by have := h.ne; simpa [Value.ownBlock] using this
  have hrow := h.row
  rw [← hn] at hrow hi hc1
  obtain ⟨cur, hcur, hsz, htk⟩ : ∃ cur : List Value, w.heap[q]? = some (.cells cur.toArray 3 (0, 0)) ∧ cur.length = cap ∧ cur.take n = ints L := by
    rcases hrow.2 with ⟨h', _⟩ | ⟨g', cap', cur, h', _, hg, _, _, hcs, htake⟩
    · simp at h'
    · simp only [Value.slice.injEq, Option.some.injEq, Addr.mk.injEq, and_true, true_and] at h'
      obtain ⟨rfl, rfl⟩ := h'
      exact ⟨cur.toList, by simpa using hg, by simpa using hcs, by simpa using htake⟩
  have c0 : w.cell? ⟨g, 0, none⟩ = some (.slice (some ⟨q, 0, none⟩) n cap) := by rw [cell_of_row w g 0 _ _ _ h.blk, hn]; rfl
  obtain ⟨c, hcd⟩ : ∃ c, c = L.getD i 0 := ⟨_, rfl⟩
  have ci : w.cell? ⟨q, i, none⟩ = some (.int .i64 c) := by rw [hrow.cellAt i (by omega), ints_get _ _ (by omega), hcd]
  rw [← hcd]
  have HM := Lib.hid h
  have HC := Lib.hid hcur
  have HT := Lib.hid htk
  have HD := Lib.hid hcd
  have HN := Lib.hid hn
  have HQ := Lib.hid hqg
  have HS := Lib.hid hsz
  have HG := Lib.hid h.blt
  have hsrc : ∀ j u, (ints (L.take i))[j]? = some u → w.cell? ((⟨q, 0, none⟩ : Addr).add j) = some u := by
    intro j u hu
    have hj : j < i := by
      have h1 := (List.getElem?_eq_some_iff.1 hu).1
      rw [ints_length, List.length_take] at h1; omega
    rw [Addr.add_lit, Nat.zero_add, hrow.cellAt j (by omega), ← hu, ints_get _ _ (by omega), ints_get _ _ (by rw [List.length_take]; omega)]
    simp [List.getD, hj]
  have HSRC := Lib.hid hsrc
  have hlt : (ints (L.take i)).length = i := by rw [ints_length, List.length_take]; omega
  have HLT := Lib.hid hlt
  clear h hrow hcur htk hcd hn hqg hsz hsrc hlt
  have hw1 : IntKind.i64.wrap ((i : Int) + 1) = ((i + 1 : Nat) : Int) := by rw [IntWalk.i64_in _ (by omega)]; omega
  have i1 : ((i : Int) + 1).toNat = i + 1 := by omega
  have i2 : 0 ≤ (i : Int) + 1 := by omega
  have i3 : (i : Int) + 1 ≤ (cap : Int) := by omega
  have i4 : 1 ≤ (i : Int) + 1 := by omega
  have i5 : (i : Int) ≤ (cap : Int) := by omega
  by_cases hcap : cap = 1
  · subst hcap
    obtain rfl : i = 0 := by omega
    obtain rfl : n = 1 := by omega
    have hw0 : IntKind.i64.wrap 1 = 1 := by decide
    go_enter Try.func32, Try.ntmps32
    go_wp2_with fail
    go_region_law (refine step_copy_fr rfl (.tmp 31) (.tmp 37) 37 37 rfl 3 Try.underlying37 (by kernel_rfl) (some ⟨q, 0, none⟩) (some ⟨q, 0, none⟩) 0 0 0 1 (by simp [Act.eval, Act.put]) (by simp [Act.eval, Act.put]) q 1 cur 3 HC.out (ints (L.take 0)) (by simp [ints]) (fun h => absurd h (by simp [ints])) (by simp [ints, HS.out]) (one_ints _) ?_; intro w4 hb4 hf4; have c0' : w4.cell? ⟨g, 0, none⟩ = some (.slice (some ⟨q, 0, none⟩) 1 1) := (hf4.out.cell (p := ⟨g, 0, none⟩) HG.out (fun e => HQ.out e.symm)).trans c0; obtain ⟨x0, d0'⟩ := at_first w4 q 1 cur _ (by rw [length_splice _ _ _ (by rw [HLT.out, HS.out]; omega), HS.out]) (by omega) hb4.out; have e0' := frozen_of_row w4 q 0 _ _ hb4.out)
    all_goals
      go_wp2_with fail
      go_ret2
      rw [← HN.out]
      exact ⟨rfl, at_close w w4 B g q 1 1 c cur L 0 hi (by have := HM.out; rwa [← HN.out] at this) HN.out HS.out HT.out HD.out HQ.out hb4.out ((Fr.refl (fun k => k = q) w).drew.trans hf4.out (fun _ _ h => h))⟩
  · go_enter Try.func32, Try.ntmps32
    go_wp2_with fail
    go_region_law (refine step_copy_fr rfl (.tmp 31) (.tmp 37) 37 37 rfl 3 Try.underlying37 (by kernel_rfl) (some ⟨q, 1, none⟩) (some ⟨q, 0, none⟩) i (cap - 1) i cap (by simp [Act.eval, Act.put]) (by simp [Act.eval, Act.put]) q 1 cur 3 HC.out (ints (L.take i)) (by rw [HLT.out]; simp) (fun _ => ⟨rfl, _, rfl, HSRC.out⟩) (by rw [HLT.out, HS.out]; omega) (one_ints _) ?_; intro w4 hb4 hf4; have c0' : w4.cell? ⟨g, 0, none⟩ = some (.slice (some ⟨q, 0, none⟩) n cap) := (hf4.out.cell (p := ⟨g, 0, none⟩) HG.out (fun e => HQ.out e.symm)).trans c0; obtain ⟨x0, d0'⟩ := at_first w4 q cap cur _ (by rw [length_splice _ _ _ (by rw [HLT.out, HS.out]; omega), HS.out]) (by omega) hb4.out; have e0' := frozen_of_row w4 q 0 _ _ hb4.out)
    all_goals
      go_wp2_with fail
      go_ret2
      rw [← HN.out]
      exact ⟨rfl, at_close w w4 B g q n cap c cur L i hi (by have := HM.out; rwa [← HN.out] at this) HN.out HS.out HT.out HD.out HQ.out hb4.out ((Fr.refl (fun k => k = q) w).drew.trans hf4.out (fun _ _ h => h))⟩

theorem mrank_no (w : World) (B g : Nat) (v : Value) (L : List Int) (h : MtAt w B g v L) (x : Int) (hx : rankOf L x = L.length) :
    Calls Try.prog 34 #[.pointer (some ⟨g, 0, none⟩), .int .i64 x] w fun e w' => e = .returned (.tuple #[.int .i64 0, .bool false]) ∧ w = w' := by
  have c0 : w.cell? ⟨g, 0, none⟩ = some v := by rw [cell_of_row w g 0 _ _ _ h.blk]; rfl
  have hidx := index_any w v L.length L (rd_of_owns h.row) x
  rw [if_neg (by omega)] at hidx
  have HI := Lib.hid hidx
  clear h hx hidx
  go_enter Try.func34, Try.ntmps34
  go_wp2_with fail
  refine HI.out.mono ?_; rintro e w1 ⟨rfl, rfl⟩
  go_wp2_with fail
  go_ret2
  exact ⟨rfl, rfl⟩
theorem mrank_yes (w : World) (B g : Nat) (v : Value) (L : List Int) (h : MtAt w B g v L) (x : Int) (k : Nat) (hk : k = rankOf L x) (hlt : k < L.length) :
    Calls Try.prog 34 #[.pointer (some ⟨g, 0, none⟩), .int .i64 x] w fun e w' => e = .returned (.tuple #[.int .i64 k, .bool true]) ∧ MtAt w' B g v (front L k) ∧ Fr (fun k => v.ownBlock = some k) w w' := by
  have c0 : w.cell? ⟨g, 0, none⟩ = some v := by rw [cell_of_row w g 0 _ _ _ h.blk]; rfl
  have hidx := index_any w v L.length L (rd_of_owns h.row) x
  rw [← hk, if_pos hlt] at hidx
  have HI := Lib.hid hidx
  have HA := Lib.hid (mat_yes w B g v L h k hlt)
  clear h hk hidx
  go_enter Try.func34, Try.ntmps34
  go_wp2_with fail
  refine HI.out.mono ?_; rintro e w1 ⟨rfl, rfl⟩
  go_wp2_with fail
  refine HA.out.mono ?_; rintro e w2 ⟨rfl, hM, hF⟩
  have HM := Lib.hid hM
  have HF := Lib.hid hF
  clear hM hF
  go_wp2_with fail
  go_ret2
  exact ⟨rfl, HM.out, HF.out⟩

theorem Rd_dropG {w : World} {a : Option Addr} {n cap : Nat} {cs : List Value} (i : Nat) (hi : i ≤ n) (h : Rd w 1 (.slice a n cap) n cs) (hne : cap ≠ i) : Rd w 1 (.slice (a.map fun x => x.add i) (n - i) (cap - i)) (n - i) (cs.drop i) := by
  obtain ⟨hl, a', c, he, h1, h2, h3, h4⟩ := h
  cases he
  refine ⟨by rw [List.length_drop, hl]; omega, _, _, rfl, by omega, by omega, fun ha => ?_, fun hn => ?_⟩
  · cases a with
    | none => have := h3 rfl; have := hl; omega
    | some x => simp at ha
  · obtain ⟨b, off, rfl, hc⟩ := h4 (by omega)
    refine ⟨b, off + i, by simp [Addr.add_lit], fun j u hu => ?_⟩
    rw [List.getElem?_drop] at hu
    rw [Nat.add_assoc]
    exact hc _ _ hu
theorem Rd_dropE {w : World} {a : Option Addr} {n cap : Nat} {cs : List Value} (i : Nat) (hi : i ≤ n) (h : Rd w 1 (.slice a n cap) n cs) (he : cap = i) : Rd w 1 (.slice a (n - i) 0) (n - i) (cs.drop i) := by
  obtain ⟨hl, a', c, he, h1, h2, h3, h4⟩ := h
  cases he
  exact ⟨by rw [List.length_drop, hl]; omega, _, _, rfl, by omega, by omega, fun _ => rfl, fun hn => by omega⟩

set_option maxHeartbeats 800000 in
theorem rfront_any (w : World) (v : Value) (n : Nat) (L : List Int) (hr : Rd w 1 v n (ints L)) (i : Nat) (hi : i < n) (hn : n ≤ 1000000) :
    Calls Try.prog 33 #[v, .int .i64 i] w (OwnRet w.heap.size 3 1 n (ints (front L i)) w) := by
  have hlen : L.length = n := by have := hr.1; simpa [ints] using this
  obtain ⟨a, cap, rfl, c1, c2, c3⟩ := rd_shape hr
  obtain ⟨ab, ao, rfl, hc⟩ := Rd_at hr (by omega)
  unfold maxLen at c2
  obtain ⟨c, hcd⟩ : ∃ c, c = L.getD i 0 := ⟨_, rfl⟩
  have cin : w.cell? ⟨ab, ao + i, none⟩ = some (.int .i64 c) := by rw [hcd]; exact hc i _ (ints_get L i (by omega))
  have hr1 : Rd w 1 (.slice (some ⟨ab, ao, none⟩) i cap) i (ints (L.take i)) := by
    have := hr.take i cap (by omega) (by omega) (Nat.le_refl _)
    rwa [Nat.mul_one, ints, ← List.map_take] at this
  have hown0 : (w.alloc (.cells #[.int .i64 c] 3)).ownsRow w.heap.size 3 1 (.slice (some ⟨w.heap.size, 0, none⟩) 1 1) 1 (ints [c]) :=
    World.ownsRow_lit (base := w.heap.size) (e := 3) (size := 1) w #[.int .i64 c] 1 (Nat.le_refl _) (by simp [maxLen]) rfl
  have HOWN0 := Lib.hid hown0
  have HR1 := Lib.hid (hr1.below (Below.alloc (Below.refl w.heap.size w) (Nat.le_refl _) (.cells #[.int .i64 c] 3)) (Nat.le_refl _))
  have HD := Lib.hid hcd
  have HL := Lib.hid hlen
  have HR := Lib.hid hr
  clear hr hr1 hc hcd hlen hown0
  by_cases hcap : cap = i + 1
  · subst hcap
    obtain rfl : n = i + 1 := by omega
    have hd : L.drop (i + 1) = [] := List.drop_eq_nil_of_le (by rw [HL.out]; omega)
    have hr2 : Rd w 1 (.slice (some ⟨ab, ao, none⟩) 0 0) 0 (ints (L.drop (i + 1))) := by
      rw [hd]; exact ⟨rfl, _, _, rfl, Nat.le_refl _, by simp [maxLen], fun _ => rfl, fun h => absurd h (by omega)⟩
    have R2 := Lib.hid hr2
    have HD2 := Lib.hid hd
    clear hr2 hd
    go_enter Try.func33, Try.ntmps33
    go_wp2_with (first | (at_builtin; refine app_own _ elemInt rfl _ _ rfl w.heap.size _ 1 (ints [c]) rfl HOWN0.out _ i (ints (L.take i)) rfl HR1.out (one_ints _) (by simp only [maxLen]; omega) (by omega) (by simp) ?_; intro p1 w1 ho1 hg1; have hb1 : Below w.heap.size w w1 := below_of_grown ((Below.refl _ _).alloc (Nat.le_refl _) _) (by simp) HOWN0.out (Nat.le_refl _) rfl hg1; obtain ⟨g1, cap1, rfl, _, _, _, _⟩ := owns_some ho1 (by omega); have R2' := R2.out.below hb1 (Nat.le_refl _)) | (at_builtin; refine app_own _ elemInt rfl _ _ rfl w.heap.size _ (1 + i) (ints [c] ++ ints (L.take i)) rfl ho1 _ (n - (i + 1)) (ints (L.drop (i + 1))) rfl R2' (one_ints _) (by simp only [maxLen]; omega) (by omega) hb1.size ?_; intro p2 w2 ho2 hg2))
    go_ret
    have e2 : ints [c] ++ ints (L.take i) = ints (front L i) := by rw [← ints_append, front, HD2.out, List.append_nil, ← HD.out]; rfl
    refine ⟨_, rfl, ?_, hb1⟩
    rw [← e2, Nat.add_comm i 1]
    exact ho1
  · have hr2 : Rd w 1 (.slice (some ⟨ab, ao + (i + 1), none⟩) (n - (i + 1)) (cap - (i + 1))) (n - (i + 1)) (ints (L.drop (i + 1))) := by
      have := Rd_dropG (i + 1) (by omega) HR.out hcap
      rw [ints, List.map_drop]
      simpa [Addr.add_lit, ints] using this
    have R2 := Lib.hid hr2
    clear hr2
    go_enter Try.func33, Try.ntmps33
    go_wp2_with (first | (at_builtin; refine app_own _ elemInt rfl _ _ rfl w.heap.size _ 1 (ints [c]) rfl HOWN0.out _ i (ints (L.take i)) rfl HR1.out (one_ints _) (by simp only [maxLen]; omega) (by omega) (by simp) ?_; intro p1 w1 ho1 hg1; have hb1 : Below w.heap.size w w1 := below_of_grown ((Below.refl _ _).alloc (Nat.le_refl _) _) (by simp) HOWN0.out (Nat.le_refl _) rfl hg1; obtain ⟨g1, cap1, rfl, _, _, _, _⟩ := owns_some ho1 (by omega); have R2' := R2.out.below hb1 (Nat.le_refl _)) | (at_builtin; refine app_own _ elemInt rfl _ _ rfl w.heap.size _ (1 + i) (ints [c] ++ ints (L.take i)) rfl ho1 _ (n - (i + 1)) (ints (L.drop (i + 1))) rfl R2' (one_ints _) (by simp only [maxLen]; omega) (by omega) hb1.size ?_; intro p2 w2 ho2 hg2))
    go_ret
    have hb2 : Below w.heap.size w w2 := below_of_grown hb1 hb1.size ho1 (Nat.le_refl _) rfl hg2
    have e1 : 1 + i + (n - (i + 1)) = n := by omega
    have e2 : ints [c] ++ ints (L.take i) ++ ints (L.drop (i + 1)) = ints (front L i) := by rw [← ints_append, ← ints_append, front, ← HD.out]; rfl
    refine ⟨p2, rfl, ?_, hb2⟩
    rw [← e2]
    rw [e1] at ho2
    exact ho2

theorem madeZerosI (m : Nat) : (madeCells (Value.int .i64 0).cells (m * 1)).toList = ints (List.replicate m 0) := by
  apply List.ext_getElem?
  intro i
  simp [madeCells, Value.cells, ints]
  by_cases h : i < m
  · simp [h, Nat.mod_one]
  · simp [h]
theorem first_set (N k : Nat) (h : k < N) : (first k ++ List.replicate (N - k) 0).set k (k : Int) = first (k + 1) ++ List.replicate (N - (k + 1)) 0 := by
  have e : N - k = (N - (k + 1)) + 1 := by omega
  rw [e, List.replicate_succ, List.set_append_right _ _ (by simp [first_length]), first_length, Nat.sub_self, List.set_cons_zero, first_succ]
  simp

set_option maxHeartbeats 800000 in
theorem rfirst_any (w : World) (n : Int) (N : Nat) (hN : (n < 0 ∧ N = 0) ∨ (n = N ∧ N < 65536)) :
    Calls Try.prog 30 #[.int .i64 n] w (OwnRet w.heap.size 3 1 N (ints (first N)) w) := by
  have hNl : N ≤ 65536 := by omega
  obtain ⟨i, hi, hz, hsi, hby⟩ := infoInt
  obtain ⟨w1, hrun, hown1, hg1⟩ := run_make_full (P := Try.prog) (w := w) w.heap.size 37 3 i (.int .i64 0) 1 Try.underlying37 hi hz hsi .i64 .i64 N (by rw [hby]; omega) (by simp only [maxLen]; omega) (Nat.le_refl _)
  rw [madeZerosI] at hown1
  have hb1 : Below w.heap.size w w1 := ⟨hg1.os, hg1.tape, hg1.output, hg1.size, fun k hk => hg1.block k hk (by simp)⟩
  have HO1 := Lib.hid hown1
  have HB1 := Lib.hid hb1
  have hm : (Instr.makeSlice 37 (.int .i64 (N : Int)) (.int .i64 (N : Int))).run Try.prog w = .ok (.slice (some ⟨w.heap.size, 0, none⟩) N N) w1 := hrun
  clear hown1 hg1 hb1 hrun hi hz hsi hby
  rcases hN with ⟨h, rfl⟩ | ⟨rfl, h⟩
  · have hm2 : (Instr.makeSlice 37 (.int .i64 0) (.int .i64 0)).run Try.prog w = .ok (.slice (some ⟨w.heap.size, 0, none⟩) 0 0) w1 := hm
    go_enter Try.func30, Try.ntmps30
    go_wp2_with fail
    refine wp_loop_once ?_
    go_wp2_with fail
    go_ret
    exact ⟨_, rfl, HO1.out, HB1.out⟩
  · go_enter Try.func30, Try.ntmps30
    go_wp2_with fail
    go_loopw [4] (fun i wr => ∃ k : Nat, k ≤ N ∧ i = .int .i64 (k : Int) ∧ wr.ownsRow w.heap.size 3 1 (.slice (some ⟨w.heap.size, 0, none⟩) N N) N (ints (first k ++ List.replicate (N - k) 0)) ∧ Below w.heap.size w wr) (fun i _ => N - (intOf i).toNat)
    case atStart => exact ⟨0, by omega, rfl, by simpa [first] using HO1.out, HB1.out⟩
    case round =>
      obtain ⟨k, hk, rfl, hown, hb⟩ := hrel
      have hsz := hb.size
      by_cases hlt : k < N
      · have dh : wr.cell? ⟨w.heap.size, k, none⟩ = some (.int .i64 0) := by
          rw [hown.cellAt k (by omega), ints_get _ _ (by simp [first_length]; omega)]
          have e : (first k ++ List.replicate (N - k) 0).getD k 0 = 0 := by
            rw [List.getD, List.getElem?_append_right (by simp [first_length]), first_length, Nat.sub_self]
            simp [show 0 < N - k by omega]
          rw [e]
        have eh := hown.frozenAt k
        have HW := Lib.hid hown
        clear hown
        go_wp2_with fail
        go_roundw
        case rel =>
          refine ⟨k + 1, by omega, by go_num, ?_, hb.setCell (Nat.le_refl _) _⟩
          have hst := (HW.out.stored k (.int .i64 (k : Int))).1
          rwa [ints_set, first_set N k hlt] at hst
        case measure => simp [intOf]; omega
      · obtain rfl : k = N := by omega
        have HW := Lib.hid hown
        clear hown
        go_wp2_with fail
        go_ret
        exact ⟨_, rfl, by simpa using HW.out, hb⟩
end Go.Proofs.Ytmdhiigonlnoiaa
