/- Plain laws of files with a sum. -/
import Derived.Test.YtmdhiigonlnoiaaVarLib
namespace Go.Waf
open Go.RowKit
def adStep (s : Int × Int) (c : Int) : Int × Int := ((s.1 + c) % 65521, (s.2 + (s.1 + c) % 65521) % 65521)
def adl (xs : List Int) : Int × Int := xs.foldl adStep (1, 0)
theorem adl_snoc (xs : List Int) (c : Int) : adl (xs ++ [c]) = adStep (adl xs) c := by simp [adl]
theorem adl_bounds (xs : List Int) : 0 ≤ (adl xs).1 ∧ (adl xs).1 < 65521 ∧ 0 ≤ (adl xs).2 ∧ (adl xs).2 < 65521 := by
  rcases List.eq_nil_or_concat xs with rfl | ⟨ys, c, rfl⟩
  · simp [adl]
  · rw [List.concat_eq_append, adl_snoc]; simp only [adStep]; omega
/-- The sum, as a number. -/
def sumOf (xs : List Int) : Int := (adl xs).2 * 65536 + (adl xs).1
theorem sumOf_bounds (xs : List Int) : 0 ≤ sumOf xs ∧ sumOf xs < 4294967296 := by have := adl_bounds xs; unfold sumOf; omega
theorem fold_fst (xs : List Int) : ∀ s : Int × Int, 0 ≤ s.1 → s.1 < 65521 → (xs.foldl adStep s).1 = (s.1 + xs.sum) % 65521 := by
  induction xs with
  | nil => intro s h0 h1; simp; omega
  | cons c cs ih =>
    intro s h0 h1
    rw [List.foldl_cons, ih _ (by simp only [adStep]; omega) (by simp only [adStep]; omega), List.sum_cons]
    simp only [adStep]; omega
theorem fold_snd (xs : List Int) : ∀ x : Int, ∃ f : Int, ∀ y : Int, 0 ≤ y → y < 65521 → (xs.foldl adStep (x, y)).2 = (y + f) % 65521 := by
  induction xs with
  | nil => intro x; exact ⟨0, fun y h0 h1 => by simp; omega⟩
  | cons c cs ih =>
    intro x
    obtain ⟨f, hf⟩ := ih ((x + c) % 65521)
    refine ⟨(x + c) % 65521 + f, fun y h0 h1 => ?_⟩
    rw [List.foldl_cons]
    simp only [adStep]
    rw [hf _ (by omega) (by omega)]; omega
theorem adl_changed (A B : List Int) (c d : Int) (hcd : c ≠ d) (hc : 0 ≤ c ∧ c ≤ 255) (hd : 0 ≤ d ∧ d ≤ 255) : sumOf (A ++ c :: B) ≠ sumOf (A ++ d :: B) := by
  have h1 := adl_bounds (A ++ c :: B)
  have h2 := adl_bounds (A ++ d :: B)
  have e1 : (adl (A ++ c :: B)).1 = (1 + (A ++ c :: B).sum) % 65521 := fold_fst _ _ (by decide) (by decide)
  have e2 : (adl (A ++ d :: B)).1 = (1 + (A ++ d :: B).sum) % 65521 := fold_fst _ _ (by decide) (by decide)
  rw [List.sum_append, List.sum_cons] at e1 e2
  unfold sumOf
  omega
theorem adl_swapped (A B : List Int) (c d : Int) (hc : 0 ≤ c ∧ c ≤ 255) (hd : 0 ≤ d ∧ d ≤ 255) : sumOf (A ++ d :: c :: B) = sumOf (A ++ c :: d :: B) ↔ d = c := by
  constructor
  · intro h
    have h1 := adl_bounds (A ++ c :: d :: B)
    have h2 := adl_bounds (A ++ d :: c :: B)
    have h3 := adl_bounds A
    obtain ⟨x, hx⟩ : ∃ x, (adl A).1 = x := ⟨_, rfl⟩
    obtain ⟨y, hy⟩ : ∃ y, (adl A).2 = y := ⟨_, rfl⟩
    have hA : adl A = (x, y) := by rw [← hx, ← hy]
    rw [hA] at h3
    simp only at h3
    clear hx hy
    have e : ((x + c) % 65521 + d) % 65521 = ((x + d) % 65521 + c) % 65521 := by omega
    obtain ⟨f, hf⟩ := fold_snd B (((x + c) % 65521 + d) % 65521)
    have e1 : adl (A ++ c :: d :: B) = B.foldl adStep (adStep (adStep (x, y) c) d) := by rw [← hA, adl, List.foldl_append]; rfl
    have e2 : adl (A ++ d :: c :: B) = B.foldl adStep (adStep (adStep (x, y) d) c) := by rw [← hA, adl, List.foldl_append]; rfl
    have s1 : (adl (A ++ c :: d :: B)).2 = (((y + (x + c) % 65521) % 65521 + ((x + c) % 65521 + d) % 65521) % 65521 + f) % 65521 := by
      rw [e1]; exact hf _ (by omega) (by omega)
    have s2 : (adl (A ++ d :: c :: B)).2 = (((y + (x + d) % 65521) % 65521 + ((x + d) % 65521 + c) % 65521) % 65521 + f) % 65521 := by
      rw [e2]
      have := hf (((y + (x + d) % 65521) % 65521 + ((x + d) % 65521 + c) % 65521) % 65521) (by omega) (by omega)
      rw [e] at this
      exact this
    unfold sumOf at h
    omega
  · rintro rfl; rfl

def sgn : List Int := [87, 65, 70, 82]
def four (s : Int) : List Int := [s / 16777216 % 256, s / 65536 % 256, s / 256 % 256, s % 256]
theorem four_inj (s t : Int) (hs : 0 ≤ s ∧ s < 4294967296) (ht : 0 ≤ t ∧ t < 4294967296) (h : four s = four t) : s = t := by
  simp only [four, List.cons.injEq, and_true] at h
  omega
theorem four_length (s : Int) : (four s).length = 4 := rfl
def headB (k : Int) (p : List Int) : List Int := sgn ++ [k] ++ putVar p.length ++ p
/-- The file of a payload. -/
def wrapB (k : Int) (p : List Int) : List Int := headB k p ++ four (sumOf (headB k p))
/-- What a file holds. -/
def openB (ys : List Int) : Int × List Int × Int :=
  if ys.length < 5 ∨ ys.take 4 ≠ sgn then (0, [], 20) else
  match readVar (ys.drop 5) with
  | none => (0, [], 20)
  | some (n, k) => if 16777216 < n then (0, [], 22) else if ys.length ≠ 5 + k + n + 4 then (0, [], 20)
    else if ys.drop (5 + k + n) ≠ four (sumOf (ys.take (5 + k + n))) then (0, [], 21) else (ys.getD 4 0, (ys.drop (5 + k)).take n, 0)
theorem headB_length (k : Int) (p : List Int) : (headB k p).length = 5 + (putVar p.length).length + p.length := by simp [headB, sgn]; omega
theorem wrapB_length (k : Int) (p : List Int) : (wrapB k p).length = 5 + (putVar p.length).length + p.length + 4 := by rw [wrapB, List.length_append, headB_length, four_length]
theorem open_wrap (k : Int) (p : List Int) (hp : p.length ≤ 16777216) : openB (wrapB k p) = (k, p, 0) := by
  have hl := wrapB_length k p
  have hh := headB_length k p
  have h1 : (wrapB k p).take 4 = sgn := by simp [wrapB, headB, sgn]
  have h2 : (wrapB k p).drop 5 = putVar p.length ++ (p ++ four (sumOf (headB k p))) := by simp [wrapB, headB, sgn]
  have h3 : (wrapB k p).take (5 + (putVar p.length).length + p.length) = headB k p := by rw [wrapB, ← hh, List.take_left]
  have h4 : (wrapB k p).drop (5 + (putVar p.length).length + p.length) = four (sumOf (headB k p)) := by rw [wrapB, ← hh, List.drop_left]
  have h5 : (wrapB k p).getD 4 0 = k := by simp [wrapB, headB, sgn]
  have h6 : ((wrapB k p).drop (5 + (putVar p.length).length)).take p.length = p := by
    rw [← List.drop_drop, h2, List.drop_left, List.take_left]
  unfold openB
  rw [if_neg (by rw [h1, hl]; simp; omega), h2, readVar_putVar _ (by omega)]
  simp only
  rw [if_neg (by omega), if_neg (by omega), h3, h4, if_neg (by simp), h5, h6]

theorem readFrom_canon (xs : List Int) : (∀ x ∈ xs, 0 ≤ x ∧ x ≤ 255) → ∀ (i v u k : Nat), readFrom i v xs = some (u, k) → ∃ w, xs.take (k - i) = putVar w ∧ u = v + w * 128 ^ i ∧ (0 < i → 0 < w) := by
  induction xs with
  | nil => intro _ i v u k h; simp [readFrom] at h
  | cons c cs ih =>
    intro hb i v u k h
    have hc := hb c (by simp)
    have hle := readFrom_le i v (c :: cs) u k h
    rw [readFrom] at h
    split at h
    · cases h
    · rename_i hbad
      split at h
      · rename_i hlt
        simp only [Option.some.injEq, Prod.mk.injEq] at h
        obtain ⟨rfl, rfl⟩ := h
        refine ⟨c.toNat, ?_, ?_, ?_⟩
        · rw [show i + 1 - i = 1 by omega, putVar_lt _ (by omega)]
          simp; omega
        · rw [show (c % 128).toNat = c.toNat by omega]
        · omega
      · rename_i hge
        obtain ⟨w, h1, h2, h3⟩ := ih (fun x hx => hb x (by simp [hx])) _ _ _ _ h
        have hle2 := readFrom_le _ _ _ _ _ h
        refine ⟨(c % 128).toNat + 128 * w, ?_, ?_, by omega⟩
        · have hw := h3 (by omega)
          rw [putVar_ge _ (by omega), show k - i = (k - (i + 1)) + 1 by omega, List.take_succ_cons, h1]
          congr 1
          · omega
          · congr 1; omega
        · rw [h2, Nat.pow_succ, Nat.add_mul, Nat.add_assoc]
          congr 2
          rw [Nat.mul_comm 128 w, Nat.mul_assoc, Nat.mul_comm 128]
theorem readVar_canon (xs : List Int) (hb : ∀ x ∈ xs, 0 ≤ x ∧ x ≤ 255) (u k : Nat) (h : readVar xs = some (u, k)) : xs.take k = putVar u := by
  obtain ⟨w, h1, h2, _⟩ := readFrom_canon xs hb 0 0 u k h
  have : u = w := by simpa using h2
  rw [this]; simpa using h1
theorem putVar_mono' (a : Nat) : ∀ b, a ≤ b → (putVar a).length ≤ (putVar b).length := by
  induction a using Nat.strongRecOn with
  | _ a ih =>
    intro b hab
    by_cases ha : a < 128
    · rw [putVar_lt a ha]; exact putVar_pos b
    · rw [putVar_ge a ha, putVar_ge b (by omega)]
      simp only [List.length_cons]
      have := ih (a / 128) (by omega) (b / 128) (by omega)
      omega
theorem set_at (xs : List Int) (i : Nat) (hi : i < xs.length) (d : Int) : xs = xs.take i ++ xs.getD i 0 :: xs.drop (i + 1) ∧ xs.set i d = xs.take i ++ d :: xs.drop (i + 1) := by
  constructor
  · have : xs.getD i 0 = xs[i] := by simp [List.getD, hi]
    rw [this, List.getElem_cons_drop, List.take_append_drop]
  · rw [List.set_eq_take_append_cons_drop, if_pos hi]
/-- A file of which one byte is another one is none. -/
theorem open_changed (k : Int) (p : List Int) (hk : 0 ≤ k ∧ k ≤ 255) (hp : ∀ x ∈ p, 0 ≤ x ∧ x ≤ 255) (i : Nat) (hi : i < (wrapB k p).length) (d : Int) (hd : 0 ≤ d ∧ d ≤ 255) (hne : d ≠ (wrapB k p).getD i 0) :
    (openB ((wrapB k p).set i d)).2.2 = 20 ∨ (openB ((wrapB k p).set i d)).2.2 = 21 ∨ (openB ((wrapB k p).set i d)).2.2 = 22 := by
  obtain ⟨W, hW⟩ : ∃ W, W = wrapB k p := ⟨_, rfl⟩
  obtain ⟨ys, hys⟩ : ∃ ys, ys = W.set i d := ⟨_, rfl⟩
  have hWb : ∀ x ∈ W, 0 ≤ x ∧ x ≤ 255 := by
    intro x hx
    rw [hW, wrapB, headB] at hx
    simp only [List.mem_append] at hx
    rcases hx with (((hx | hx) | hx) | hx) | hx
    · simp [sgn] at hx; omega
    · simp at hx; omega
    · exact putVar_bytes _ x hx
    · exact hp x hx
    · simp only [four, List.mem_cons, List.not_mem_nil, or_false] at hx; omega
  have hyb : ∀ x ∈ ys, 0 ≤ x ∧ x ≤ 255 := by
    intro x hx
    rw [hys] at hx
    rcases List.mem_or_eq_of_mem_set hx with h | h
    · exact hWb x h
    · rw [h]; exact hd
  have hyl : ys.length = W.length := by rw [hys, List.length_set]
  have hWl : W.length = 5 + (putVar p.length).length + p.length + 4 := by rw [hW, wrapB_length]
  rw [← hW] at hi hne ⊢
  rw [← hys]
  unfold openB
  split
  · simp
  · rename_i h1
    cases hr : readVar (ys.drop 5) with
    | none => simp
    | some q =>
      obtain ⟨n, m⟩ := q
      simp only
      split
      · simp
      · split
        · simp
        · rename_i h2 h3
          split
          · simp
          · rename_i h4
            exfalso
            have h3' : ys.length = 5 + m + n + 4 := by omega
            have h4' : ys.drop (5 + m + n) = four (sumOf (ys.take (5 + m + n))) := Classical.not_not.1 h4
            have hcan := readVar_canon _ (fun x hx => hyb x (List.mem_of_mem_drop hx)) n m hr
            have hm : m = (putVar n).length := by
              rw [← hcan, List.length_take, List.length_drop]; omega
            have hnp : n = p.length := by
              rcases Nat.lt_trichotomy n p.length with h | h | h
              · have := putVar_mono' n p.length (by omega); omega
              · exact h
              · have := putVar_mono' p.length n (by omega); omega
            obtain ⟨E, hE⟩ : ∃ E, E = 5 + m + n := ⟨_, rfl⟩
            have hEh : E = (headB k p).length := by rw [headB_length, hE, hm, hnp]
            have w1 : W.take E = headB k p := by rw [hW, wrapB, hEh, List.take_left]
            have w2 : W.drop E = four (sumOf (W.take E)) := by rw [w1, hW, wrapB, hEh, List.drop_left]
            rw [← hE] at h4'
            by_cases hiE : i < E
            · have y1 : ys.drop E = W.drop E := by rw [hys, List.drop_set, if_pos hiE]
              have y2 : ys.take E = (W.take E).set i d := by rw [hys, List.take_set]
              have hs := four_inj _ _ (sumOf_bounds _) (sumOf_bounds _) (w2.symm.trans (y1.symm.trans h4'))
              have hl : i < (W.take E).length := by rw [List.length_take]; omega
              obtain ⟨s1, s2⟩ := set_at (W.take E) i hl d
              have hg : (W.take E).getD i 0 = W.getD i 0 := by simp [List.getD, hiE]
              have hgb : 0 ≤ W.getD i 0 ∧ W.getD i 0 ≤ 255 := by
                have : W.getD i 0 = W[i] := by simp [List.getD, hi]
                rw [this]; exact hWb _ (List.getElem_mem hi)
              rw [y2, s2] at hs
              rw [hg] at s1
              have hs2 : sumOf (W.take E) = sumOf ((W.take E).take i ++ W.getD i 0 :: (W.take E).drop (i + 1)) := congrArg sumOf s1
              exact adl_changed _ _ _ _ (Ne.symm hne) hgb hd (hs2.symm.trans hs)
            · have y2 : ys.take E = W.take E := by rw [hys, List.take_set, List.set_eq_of_length_le (by rw [List.length_take]; omega)]
              rw [y2, ← w2] at h4'
              have h5 := congrArg (fun l : List Int => l[i - E]?) h4'
              simp only [List.getElem?_drop] at h5
              rw [show E + (i - E) = i by omega, hys, List.getElem?_set_self hi, List.getElem?_eq_getElem hi] at h5
              simp only [Option.some.injEq] at h5
              exact hne (by rw [h5]; simp [List.getD, hi])
end Go.Waf
