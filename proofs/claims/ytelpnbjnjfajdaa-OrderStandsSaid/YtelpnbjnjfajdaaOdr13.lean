/- Order, plain: where all needs lie lower, the order is 0, 1, .. -/
import Derived.Test.YtelpnbjnjfajdaaOdr12
namespace Go.Proofs.Ytelpnbjnjfajdaa
open Go.RowKit Go.Waf Go.Maps
set_option maxRecDepth 100000
set_option linter.unusedVariables false
set_option linter.unusedSimpArgs false

theorem nmB_list (k : Nat) : (nmB k).toList = [77, UInt8.ofNat (97 + k)] := by
  rw [ByteArray.toList_eq]
  have e : ((97 : Int) + (k : Int)).toNat = 97 + k := by omega
  simp [nmB, pM, strOfNums, ByteArray.data_append, e]
theorem nmB_inj {k j : Nat} (hk : k < 100) (hj : j < 100) (h : (nmB k).toList = (nmB j).toList) : k = j := by
  rw [nmB_list, nmB_list] at h
  have h2 : UInt8.ofNat (97 + k) = UInt8.ofNat (97 + j) := by simpa using h
  have h3 := congrArg UInt8.toNat h2
  simp only [UInt8.toNat_ofNat'] at h3
  omega
theorem nmB_needed (k : Nat) : needed (nmB k) = true := by
  unfold needed; rw [nmB_list]; simp
section
variable {zs : List Int} {n : Nat}
/-- What each mask is: needs below. -/
def Low (zs : List Int) : Prop := ∀ i, i < zs.length → 0 ≤ zs.getD i 0 ∧ zs.getD i 0 < 2 ^ i
theorem bitOf_low {z : Int} {i k : Nat} (h0 : 0 ≤ z) (h : z < 2 ^ i) (hb : bitOf z k = true) : k < i := by
  rcases Nat.lt_or_ge k i with h1 | h1
  · exact h1
  · exfalso
    have hp : (2 : Int) ^ i ≤ 2 ^ k := by
      have := Nat.pow_le_pow_right (n := 2) (by decide) h1
      have e1 : ((2 : Int) ^ i) = ((2 ^ i : Nat) : Int) := by simp
      have e2 : ((2 : Int) ^ k) = ((2 ^ k : Nat) : Int) := by simp
      rw [e1, e2]; omega
    have : z / 2 ^ k = 0 := Int.ediv_eq_zero_of_lt h0 (by omega)
    unfold bitOf at hb
    rw [this] at hb
    simp at hb
theorem needs_low (hz : Low zs) (hn : zs.length ≤ 16) {i : Nat} (hi : i < zs.length) {x : ByteArray} (hx : x ∈ needsOf (madeM zs false i).imps) : ∃ j, j < i ∧ x = nmB j := by
  have h1 := (List.mem_filter.1 hx).1
  obtain ⟨h0, h2⟩ := hz i hi
  have h3 : x ∈ impsB zs.length (zs.getD i 0) (min (zs.length + 1) 20) := h1
  unfold impsB at h3
  rcases List.mem_append.1 h3 with h | h
  · split at h
    · rename_i hb
      have := bitOf_low h0 h2 hb
      omega
    · cases h
  · obtain ⟨k, hk, rfl⟩ := List.mem_map.1 h
    exact ⟨k, bitOf_low h0 h2 (List.mem_filter.1 hk).2, rfl⟩
theorem made_name (i : Nat) : (madeM zs false i).name = nmB i := by unfold madeM; simp
theorem atF_nm (j : Nat) (hj : j < 100) : ∀ f k, k ≤ j → j < k + f → k + f ≤ 100 → atF (madeM zs false) (nmB j) f k = (j : Int)
  | 0, k, h1, h2, _ => absurd h2 (by omega)
  | f + 1, k, h1, h2, h3 => by
    rw [atF, made_name]
    by_cases h : (nmB k).toList = (nmB j).toList
    · rw [if_pos h, nmB_inj (by omega) hj h]
    · rw [if_neg h]
      exact atF_nm j hj f (k + 1) (by
        rcases Nat.lt_or_ge k j with h4 | h4
        · omega
        · exfalso; have : k = j := by omega
          subst this; exact h rfl) (by omega) (by omega)
theorem atN_nm {m j : Nat} (hm : m ≤ 16) (hj : j < m) : atN (madeM zs false) m (nmB j) = (j : Int) := atF_nm j (by omega) m 0 (by omega) (by omega) (by omega)
theorem visL_same {step : St → Nat → Bool × St} {idx : ByteArray → Nat} {s : St} : ∀ (L : List ByteArray), (∀ x ∈ L, step s (idx x) = (true, s)) → visL step idx L s = (true, s)
  | [], _ => rfl
  | x :: t, h => by
    unfold visL
    rw [h x (by simp), if_pos rfl]
    exact visL_same t fun y hy => h y (by simp [hy])
theorem vis_mem (M : Nat → Md) (n f : Nat) (s : St) (i : Nat) (h : i ∈ s.out) : vis M n f s i = (true, s) := by
  cases f with
  | zero => simp [vis, h]
  | succ f => rw [vis, if_pos h]
theorem vis_next (hz : Low zs) (hn : zs.length ≤ 16) (f k : Nat) (hk : k < zs.length) (s : St) (ho : s.out = List.range k) (hon : s.on k = false) :
    vis (madeM zs false) zs.length (f + 1) s k = (true, ((s.mark k).done k)) := by
  have hni : k ∉ s.out := by rw [ho]; simp
  have hv : visL (vis (madeM zs false) zs.length f) (idxN (madeM zs false) zs.length) (needsOf (madeM zs false k).imps) (s.mark k) = (true, s.mark k) := visL_same _ fun x hx => by
    obtain ⟨j, hj, rfl⟩ := needs_low hz hn hk hx
    have e : idxN (madeM zs false) zs.length (nmB j) = j := by unfold idxN; rw [atN_nm hn (by omega)]; simp
    rw [e]
    exact vis_mem _ _ _ _ _ (by show j ∈ s.out; rw [ho]; simp [hj])
  rw [vis, if_neg hni, if_neg (by rw [hon]; simp), hv, if_pos rfl]
theorem visAll_range (hz : Low zs) (hn : zs.length ≤ 16) : ∀ (f k : Nat) (s : St), k + f = zs.length → s.out = List.range k → (∀ j, k ≤ j → s.on j = false) →
    (visAll (madeM zs false) zs.length f k s).1 = true ∧ (visAll (madeM zs false) zs.length f k s).2.out = List.range zs.length
  | 0, k, s, h, ho, _ => by
    have : k = zs.length := by omega
    rw [visAll]; exact ⟨rfl, by rw [ho, this]⟩
  | f + 1, k, s, h, ho, hon => by
    obtain ⟨p, hp⟩ : ∃ p, zs.length = p + 1 := ⟨zs.length - 1, by omega⟩
    have e := vis_next hz hn p k (by omega) s ho (hon k (Nat.le_refl _))
    rw [← hp] at e
    rw [visAll, e, if_pos rfl]
    refine visAll_range hz hn f (k + 1) _ (by omega) ?_ fun j hj => ?_
    · show s.out ++ [k] = _
      rw [ho, List.range_succ]
    · show upd s.on k j = false
      unfold upd
      rw [if_neg (by omega)]; exact hon j (by omega)
theorem ord_low (hz : Low zs) (hn : zs.length ≤ 16) : ordR (madeM zs false) zs.length = (List.range zs.length, 0) := by
  have h1 : Once (madeM zs false) zs.length := fun i hi => by rw [made_name]; exact atN_nm hn hi
  have h2 : All (madeM zs false) zs.length := fun i hi x hx => by
    obtain ⟨j, hj, rfl⟩ := needs_low hz hn hi hx
    rw [atN_nm hn (by omega)]; omega
  obtain ⟨e1, e2⟩ := visAll_range hz hn zs.length 0 st0 (by omega) rfl (fun _ _ => rfl)
  unfold ordR
  rw [if_neg (by omega), if_neg (fun h => h h1), if_neg (fun h => h h2), if_pos e1, e2]
/-- The first k names have been seen. -/
structure SeenK (k : Nat) (D : DataW Unit) : Prop where
  is : IsMap D
  at_ : ∀ j, j < 100 → D.atKey (keyS (nmB j)) (.lit (.bool false)) = .lit (.bool (decide (j < k)))
theorem SeenK.start : SeenK 0 (.map []) := ⟨isMap_empty, fun j _ => rfl⟩
theorem SeenK.next {k : Nat} {D : DataW Unit} (h : SeenK k D) (hk : k < 100) : SeenK (k + 1) (D.put (keyS (nmB k)) (.lit (.bool true))) := ⟨h.is.put _ _, fun j hj => by
  by_cases he : k = j
  · subst he
    rw [atKey_put_same h.is (show WideAt.IsKeyLit (keyS _) from trivial)]
    simp
  · rw [atKey_put_other (fun e => he (nmB_inj hk hj (keyS_eq.1 e.symm))), h.at_ j hj]
    congr 2
    rw [decide_eq_decide]; omega⟩
end
end Go.Proofs.Ytelpnbjnjfajdaa
