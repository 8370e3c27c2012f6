/- The walks and the plain lemmas of the statement, joined: part 8. No condition. -/
import Derived.Test.YtgkdphnhfjjepaaJStk427
import Derived.Test.YtgkdphnhfjjepaaJStk420

/- StackMoves, StackFrames: steps by what stands at a place; the code that stores a list, and moves words of it (plain). -/
namespace Go.Proofs.Ytgkdphnhfjjepaa
open Go.RowKit Go.Waf
set_option maxRecDepth 100000
set_option linter.unusedVariables false
set_option linter.unusedSimpArgs false

theorem step_of {s : SSt} {op k : Int} (hf : s.fin = 0) (h0 : 0 ≤ s.pc) (h1 : s.pc < s.code.length) (hat : s.code.getD s.pc.toNat (0, 0) = (op, k)) (hg : goodC (op, k) = true) : s.step = (s.next.exec op k).getD s.fault := by
  unfold SSt.step
  rw [if_pos hf]
  unfold SSt.step1 SSt.try1
  have e : s.at' = (op, k) := hat
  rw [if_pos ⟨h0, h1⟩, e, if_pos hg]
theorem step_push {s : SSt} {k : Int} (hf : s.fin = 0) (h0 : 0 ≤ s.pc) (h1 : s.pc < s.code.length) (hat : s.code.getD s.pc.toNat (0, 0) = (1, k)) (hl : s.st.length < 1000) : s.step = { s with st := k :: s.st, pc := s.pc + 1 } := by
  rw [step_of hf h0 h1 hat (by simp [goodC, hasK])]
  have e : s.next.exec 1 k = s.next.lay k := rfl
  rw [e, lay_some (s := s.next) hl]; rfl
theorem step_store {s : SSt} {x p : Int} {t : List Int} (hf : s.fin = 0) (h0 : 0 ≤ s.pc) (h1 : s.pc < s.code.length) (hat : s.code.getD s.pc.toNat (0, 0) = (7, 0)) (hst : s.st = x :: p :: t) (hok : okAt s p 1) : s.step = { s with st := t, mem := s.mem.set p.toNat x, pc := s.pc + 1 } := by
  rw [step_of hf h0 h1 hat (by simp [goodC, hasK])]
  have e : s.next.exec 7 0 = (match s.next.st with | x :: p :: t => (if okAt s.next p 1 then some { s.next with st := t, mem := s.next.mem.set p.toNat x } else none) | _ => none) := rfl
  rw [e, show s.next.st = x :: p :: t from hst]
  simp only
  rw [if_pos (show okAt s.next p 1 from hok)]; rfl
theorem step_move {s : SSt} {q p k : Int} {t : List Int} (hf : s.fin = 0) (h0 : 0 ≤ s.pc) (h1 : s.pc < s.code.length) (hat : s.code.getD s.pc.toNat (0, 0) = (8, k)) (hst : s.st = q :: p :: t) :
    s.step = if okAt s q k ∧ okAt s p k then { s with st := t, mem := s.mem.take p.toNat ++ (s.mem.drop q.toNat).take k.toNat ++ s.mem.drop (p.toNat + k.toNat), pc := s.pc + 1 } else s.fault := by
  rw [step_of hf h0 h1 hat (by simp [goodC, hasK])]
  have e : s.next.exec 8 k = (match s.next.st with | q :: p :: t => (if okAt s.next q k ∧ okAt s.next p k then some { s.next with st := t, mem := s.next.mem.take p.toNat ++ (s.next.mem.drop q.toNat).take k.toNat ++ s.next.mem.drop (p.toNat + k.toNat) } else none) | _ => none) := rfl
  rw [e, show s.next.st = q :: p :: t from hst]
  simp only
  by_cases h : okAt s q k ∧ okAt s p k
  · rw [if_pos h, if_pos (show okAt s.next q k ∧ okAt s.next p k from h)]; rfl
  · rw [if_neg h, if_neg (show ¬ (okAt s.next q k ∧ okAt s.next p k) from h)]; rfl
theorem step_halt {s : SSt} (hf : s.fin = 0) (h0 : 0 ≤ s.pc) (h1 : s.pc < s.code.length) (hat : s.code.getD s.pc.toNat (0, 0) = (0, 0)) : s.step = { s with fin := 1 } := by
  rw [step_of hf h0 h1 hat (by simp [goodC, hasK])]
  show { s with fin := 1, pc := s.pc + 1 - 1 } = _
  rw [Int.add_sub_cancel]

/-- The code that stores a list's numbers, so many of them. -/
def stores (xs : List Int) : Nat → List (Int × Int)
  | 0 => []
  | j + 1 => stores xs j ++ [(1, (j : Int)), (1, xs.getD j 0), (7, 0)]
theorem stores_length (xs : List Int) : ∀ j, (stores xs j).length = 3 * j
  | 0 => rfl
  | j + 1 => by rw [stores, List.length_append, stores_length xs j]; simp; omega
theorem stores_getD (xs : List Int) : ∀ (n i : Nat) (l : List (Int × Int)), i < n → (stores xs n ++ l).getD (3 * i) (0, 0) = (1, (i : Int)) ∧ (stores xs n ++ l).getD (3 * i + 1) (0, 0) = (1, xs.getD i 0) ∧ (stores xs n ++ l).getD (3 * i + 2) (0, 0) = (7, 0)
  | 0, i, l, h => by omega
  | n + 1, i, l, h => by
    rw [stores, List.append_assoc]
    by_cases hi : i < n
    · exact stores_getD xs n i _ hi
    · obtain rfl : i = n := by omega
      have hl := stores_length xs i
      refine ⟨?_, ?_, ?_⟩
      · rw [List.getD_eq_getElem?_getD, List.getElem?_append_right (by omega), hl, Nat.sub_self]; rfl
      · rw [List.getD_eq_getElem?_getD, List.getElem?_append_right (by omega), hl, show 3 * i + 1 - 3 * i = 1 by omega]; rfl
      · rw [List.getD_eq_getElem?_getD, List.getElem?_append_right (by omega), hl, show 3 * i + 2 - 3 * i = 2 by omega]; rfl
def mcode (xs : List Int) (p q k : Int) : List (Int × Int) := stores xs xs.length ++ [(1, p), (1, q), (8, k), (0, 0)]
theorem mcode_length (xs : List Int) (p q k : Int) : (mcode xs p q k).length = 3 * xs.length + 4 := by rw [mcode, List.length_append, stores_length]; rfl
def mst (xs : List Int) (p q k : Int) (mem : List Int) (st : List Int) (pc : Int) : SSt := ⟨mcode xs p q k, mem, [], st, 0, 0, [], pc, [], 0, 0⟩
def laid (xs : List Int) (j : Nat) : List Int := xs.take j ++ List.replicate (xs.length - j) 0
theorem laid_length (xs : List Int) (j : Nat) (h : j ≤ xs.length) : (laid xs j).length = xs.length := by simp [laid]; omega
theorem laid_set (xs : List Int) (j : Nat) (h : j < xs.length) : (laid xs j).set j (xs.getD j 0) = laid xs (j + 1) := by
  unfold laid
  have hl : (xs.take j).length = j := by simp; omega
  rw [List.set_append_right _ _ (by omega), hl, Nat.sub_self, show xs.length - j = (xs.length - (j + 1)) + 1 by omega, List.replicate_succ, List.set_cons_zero, List.take_succ_eq_append_getElem h, List.append_assoc]
  congr 2
  simp [h]
theorem mst_three (xs : List Int) (p q k : Int) (j : Nat) (h : j < xs.length) : (mst xs p q k (laid xs j) [] ((3 * j : Nat) : Int)).stepN 3 = mst xs p q k (laid xs (j + 1)) [] ((3 * (j + 1) : Nat) : Int) := by
  obtain ⟨g0, g1, g2⟩ := stores_getD xs xs.length j [(1, p), (1, q), (8, k), (0, 0)] h
  have hl := mcode_length xs p q k
  have s1 : (mst xs p q k (laid xs j) [] ((3 * j : Nat) : Int)).step = mst xs p q k (laid xs j) [(j : Int)] ((3 * j + 1 : Nat) : Int) := by
    rw [step_push (k := (j : Int)) rfl (by show (0 : Int) ≤ ((3 * j : Nat) : Int); omega) (by show ((3 * j : Nat) : Int) < ((mcode xs p q k).length : Int); omega) g0 (by show (0 : Nat) < 1000; decide)]
    rfl
  have s2 : (mst xs p q k (laid xs j) [(j : Int)] ((3 * j + 1 : Nat) : Int)).step = mst xs p q k (laid xs j) [xs.getD j 0, (j : Int)] ((3 * j + 2 : Nat) : Int) := by
    rw [step_push (k := xs.getD j 0) rfl (by show (0 : Int) ≤ ((3 * j + 1 : Nat) : Int); omega) (by show ((3 * j + 1 : Nat) : Int) < ((mcode xs p q k).length : Int); omega) g1 (by show (1 : Nat) < 1000; decide)]
    rfl
  have s3 : (mst xs p q k (laid xs j) [xs.getD j 0, (j : Int)] ((3 * j + 2 : Nat) : Int)).step = mst xs p q k (laid xs (j + 1)) [] ((3 * (j + 1) : Nat) : Int) := by
    rw [step_store (x := xs.getD j 0) (p := (j : Int)) (t := []) rfl (by show (0 : Int) ≤ ((3 * j + 2 : Nat) : Int); omega) (by show ((3 * j + 2 : Nat) : Int) < ((mcode xs p q k).length : Int); omega) g2 rfl ⟨by omega, by omega, by show (1 : Int) ≤ ((laid xs j).length : Int) - j; rw [laid_length xs j (by omega)]; omega⟩]
    show ({ mst xs p q k ((laid xs j).set (j : Int).toNat (xs.getD j 0)) [] (((3 * j + 2 : Nat) : Int) + 1) with fin := 0 } : SSt) = _
    rw [Int.toNat_natCast, laid_set xs j h]
    rfl
  show ((mst xs p q k (laid xs j) [] ((3 * j : Nat) : Int)).step.step).step = _
  rw [s1, s2, s3]
theorem mst_all (xs : List Int) (p q k : Int) : ∀ j, j ≤ xs.length → (mst xs p q k (laid xs 0) [] 0).stepN (3 * j) = mst xs p q k (laid xs j) [] ((3 * j : Nat) : Int)
  | 0, _ => rfl
  | j + 1, h => by rw [show 3 * (j + 1) = 3 * j + 3 by omega, SSt.stepN_add, mst_all xs p q k j (by omega), mst_three xs p q k j (by omega)]; rfl
theorem laid_all (xs : List Int) : laid xs xs.length = xs := by simp [laid]
theorem mcode_last (xs : List Int) (p q k : Int) : (mcode xs p q k).getD (3 * xs.length) (0, 0) = (1, p) ∧ (mcode xs p q k).getD (3 * xs.length + 1) (0, 0) = (1, q) ∧ (mcode xs p q k).getD (3 * xs.length + 2) (0, 0) = (8, k) ∧ (mcode xs p q k).getD (3 * xs.length + 3) (0, 0) = (0, 0) := by
  have hl := stores_length xs xs.length
  unfold mcode
  refine ⟨?_, ?_, ?_, ?_⟩
  · rw [List.getD_eq_getElem?_getD, List.getElem?_append_right (by omega), hl, Nat.sub_self]; rfl
  · rw [List.getD_eq_getElem?_getD, List.getElem?_append_right (by omega), hl, show 3 * xs.length + 1 - 3 * xs.length = 1 by omega]; rfl
  · rw [List.getD_eq_getElem?_getD, List.getElem?_append_right (by omega), hl, show 3 * xs.length + 2 - 3 * xs.length = 2 by omega]; rfl
  · rw [List.getD_eq_getElem?_getD, List.getElem?_append_right (by omega), hl, show 3 * xs.length + 3 - 3 * xs.length = 3 by omega]; rfl
/-- What it comes to. -/
theorem mst_end (xs : List Int) (p q k : Nat) : (mst xs p q k (laid xs 0) [] 0).stepN (3 * xs.length + 4) =
    if q + k ≤ xs.length ∧ p + k ≤ xs.length then { mst xs p q k (splice xs p ((xs.drop q).take k)) [] ((3 * xs.length + 3 : Nat) : Int) with fin := 1 } else (mst xs p q k xs [(q : Int), (p : Int)] ((3 * xs.length + 2 : Nat) : Int)).fault := by
  obtain ⟨g0, g1, g2, g3⟩ := mcode_last xs p q k
  have hl := mcode_length xs p q k
  rw [SSt.stepN_add, mst_all xs p q k xs.length (Nat.le_refl _), laid_all]
  have s1 : (mst xs p q k xs [] ((3 * xs.length : Nat) : Int)).step = mst xs p q k xs [(p : Int)] ((3 * xs.length + 1 : Nat) : Int) := by
    rw [step_push (k := (p : Int)) rfl (by show (0 : Int) ≤ ((3 * xs.length : Nat) : Int); omega) (by show ((3 * xs.length : Nat) : Int) < ((mcode xs p q k).length : Int); omega) g0 (by show (0 : Nat) < 1000; decide)]
    rfl
  have s2 : (mst xs p q k xs [(p : Int)] ((3 * xs.length + 1 : Nat) : Int)).step = mst xs p q k xs [(q : Int), (p : Int)] ((3 * xs.length + 2 : Nat) : Int) := by
    rw [step_push (k := (q : Int)) rfl (by show (0 : Int) ≤ ((3 * xs.length + 1 : Nat) : Int); omega) (by show ((3 * xs.length + 1 : Nat) : Int) < ((mcode xs p q k).length : Int); omega) g1 (by show (1 : Nat) < 1000; decide)]
    rfl
  have s3 := step_move (s := mst xs p q k xs [(q : Int), (p : Int)] ((3 * xs.length + 2 : Nat) : Int)) (q := (q : Int)) (p := (p : Int)) (k := (k : Int)) (t := []) rfl (by show (0 : Int) ≤ ((3 * xs.length + 2 : Nat) : Int); omega) (by show ((3 * xs.length + 2 : Nat) : Int) < ((mcode xs p q k).length : Int); omega) g2 rfl
  show ((mst xs p q k xs [] ((3 * xs.length : Nat) : Int)).step.step.step).step = _
  rw [s1, s2, s3]
  by_cases hok : q + k ≤ xs.length ∧ p + k ≤ xs.length
  · have h1 : okAt (mst xs p q k xs [(q : Int), (p : Int)] ((3 * xs.length + 2 : Nat) : Int)) (q : Int) (k : Int) ∧ okAt (mst xs p q k xs [(q : Int), (p : Int)] ((3 * xs.length + 2 : Nat) : Int)) (p : Int) (k : Int) :=
      ⟨⟨by omega, by omega, by show (k : Int) ≤ (xs.length : Int) - q; omega⟩, ⟨by omega, by omega, by show (k : Int) ≤ (xs.length : Int) - p; omega⟩⟩
    rw [if_pos h1, if_pos hok]
    have e : ({ mst xs p q k xs [(q : Int), (p : Int)] ((3 * xs.length + 2 : Nat) : Int) with st := [], mem := (mst xs p q k xs [(q : Int), (p : Int)] ((3 * xs.length + 2 : Nat) : Int)).mem.take (p : Int).toNat ++ ((mst xs p q k xs [(q : Int), (p : Int)] ((3 * xs.length + 2 : Nat) : Int)).mem.drop (q : Int).toNat).take (k : Int).toNat ++ (mst xs p q k xs [(q : Int), (p : Int)] ((3 * xs.length + 2 : Nat) : Int)).mem.drop ((p : Int).toNat + (k : Int).toNat), pc := (mst xs p q k xs [(q : Int), (p : Int)] ((3 * xs.length + 2 : Nat) : Int)).pc + 1 } : SSt) = mst xs p q k (splice xs p ((xs.drop q).take k)) [] ((3 * xs.length + 3 : Nat) : Int) := by
      rw [splice_flat, List.length_take, List.length_drop, Nat.min_eq_left (by omega)]
      simp only [Int.toNat_natCast]
      rfl
    rw [e, step_halt rfl (by show (0 : Int) ≤ ((3 * xs.length + 3 : Nat) : Int); omega) (by show ((3 * xs.length + 3 : Nat) : Int) < ((mcode xs p q k).length : Int); omega) g3]
  · have h1 : ¬ (okAt (mst xs p q k xs [(q : Int), (p : Int)] ((3 * xs.length + 2 : Nat) : Int)) (q : Int) (k : Int) ∧ okAt (mst xs p q k xs [(q : Int), (p : Int)] ((3 * xs.length + 2 : Nat) : Int)) (p : Int) (k : Int)) := by
      rintro ⟨⟨_, _, a⟩, ⟨_, _, b⟩⟩
      have a' : (k : Int) ≤ (xs.length : Int) - q := a
      have b' : (k : Int) ≤ (xs.length : Int) - p := b
      omega
    rw [if_neg h1, if_neg hok]
    exact step_stop (by show (2 : Int) ≠ 0; decide)
theorem mst_new (xs : List Int) (p q k : Int) : SSt.new (mcode xs p q k) xs.length 0 [] = mst xs p q k (laid xs 0) [] 0 := by
  unfold SSt.new mst laid zeros
  simp
theorem mcode_ok {xs : List Int} {p q k : Int} (hx : ∀ x ∈ xs, I32 x) (hl : xs.length ≤ 1000) (hp : I32 p) (hq : I32 q) (hk : I32 k) : CodeOk (mcode xs p q k) := by
  have hz : I32 0 := by unfold I32; omega
  have hs : ∀ n, n ≤ xs.length → CodeOk (stores xs n) := by
    intro n
    induction n with
    | zero => intro _ c hc; cases hc
    | succ n ih =>
      intro hn c hc
      rcases List.mem_append.1 hc with h | h
      · exact ih (by omega) c h
      · simp only [List.mem_cons, List.not_mem_nil, or_false] at h
        rcases h with rfl | rfl | rfl
        · exact ⟨by show (-9223372036854775808 : Int) ≤ 1; decide, by show (1 : Int) ≤ 9223372036854775807; decide, by unfold I32; show -2147483648 ≤ (n : Int) ∧ (n : Int) ≤ 2147483647; omega⟩
        · exact ⟨by show (-9223372036854775808 : Int) ≤ 1; decide, by show (1 : Int) ≤ 9223372036854775807; decide, hx _ (by rw [List.getD_eq_getElem?_getD, List.getElem?_eq_getElem (by omega)]; simp)⟩
        · exact ⟨by decide, by decide, hz⟩
  intro c hc
  rcases List.mem_append.1 hc with h | h
  · exact hs _ (Nat.le_refl _) c h
  · simp only [List.mem_cons, List.not_mem_nil, or_false] at h
    rcases h with rfl | rfl | rfl | rfl
    · exact ⟨by show (-9223372036854775808 : Int) ≤ 1; decide, by show (1 : Int) ≤ 9223372036854775807; decide, hp⟩
    · exact ⟨by show (-9223372036854775808 : Int) ≤ 1; decide, by show (1 : Int) ≤ 9223372036854775807; decide, hq⟩
    · exact ⟨by show (-9223372036854775808 : Int) ≤ 8; decide, by show (8 : Int) ≤ 9223372036854775807; decide, hk⟩
    · exact ⟨by decide, by decide, hz⟩
theorem codeCells_append (a b : List (Int × Int)) : codeCells (a ++ b) = codeCells a ++ codeCells b := by simp [codeCells]
end Go.Proofs.Ytgkdphnhfjjepaa

/- StackFrames, plain: a frame at each level. -/
namespace Go.Proofs.Ytgkdphnhfjjepaa
open Go.RowKit Go.Waf
set_option maxRecDepth 100000
set_option linter.unusedVariables false
set_option linter.unusedSimpArgs false

theorem step_call {s : SSt} {k : Int} (hf : s.fin = 0) (h0 : 0 ≤ s.pc) (h1 : s.pc < s.code.length) (hat : s.code.getD s.pc.toNat (0, 0) = (27, k)) (hl : s.kept.length < 1000) : s.step = { s with kept := (s.pc + 1, s.fp) :: s.kept, pc := k } := by
  rw [step_of hf h0 h1 hat (by simp [goodC, hasK])]
  have e : s.next.exec 27 k = s.next.lead 27 k := rfl
  rw [e, lead27_eq, if_pos (show s.next.kept.length < 1000 from hl)]; rfl
theorem step_enter {s : SSt} {k : Int} (hf : s.fin = 0) (h0 : 0 ≤ s.pc) (h1 : s.pc < s.code.length) (hat : s.code.getD s.pc.toNat (0, 0) = (28, k)) (hk : 0 ≤ k ∧ k ≤ (s.mem.length : Int) - s.top) : s.step = { s with fp := s.top, top := s.top + k, mem := s.mem.take s.top.toNat ++ List.replicate k.toNat 0 ++ s.mem.drop (s.top + k).toNat, pc := s.pc + 1 } := by
  rw [step_of hf h0 h1 hat (by simp [goodC, hasK])]
  have e : s.next.exec 28 k = s.next.lead 28 k := rfl
  rw [e, lead28_eq, if_pos (show 0 ≤ k ∧ k ≤ (s.next.mem.length : Int) - s.next.top from hk)]; rfl
theorem step_local {s : SSt} {k : Int} (hf : s.fin = 0) (h0 : 0 ≤ s.pc) (h1 : s.pc < s.code.length) (hat : s.code.getD s.pc.toNat (0, 0) = (5, k)) (hl : s.st.length < 1000) : s.step = { s with st := wrap32 (s.fp + k) :: s.st, pc := s.pc + 1 } := by
  rw [step_of hf h0 h1 hat (by simp [goodC, hasK])]
  have e : s.next.exec 5 k = s.next.lay (wrap32 (s.fp + k)) := rfl
  rw [e, lay_some (s := s.next) hl]; rfl
theorem step_leave {s : SSt} {x : Int × Int} {t : List (Int × Int)} (hf : s.fin = 0) (h0 : 0 ≤ s.pc) (h1 : s.pc < s.code.length) (hat : s.code.getD s.pc.toNat (0, 0) = (29, 0)) (hk : s.kept = x :: t) : s.step = { s with kept := t, top := s.fp, pc := x.1, fp := x.2 } := by
  rw [step_of hf h0 h1 hat (by simp [goodC, hasK])]
  have e : s.next.exec 29 0 = (match s.next.kept with | [] => none | x :: t => some { s.next with kept := t, top := s.next.fp, pc := x.1, fp := x.2 }) := rfl
  rw [e, show s.next.kept = x :: t from hk]; rfl

/-- How many words the frame of a level has; where it begins. -/
def dn (zs : List Int) (i : Nat) : Nat := (zs.getD i 0 % 5).toNat + 1
def tp (zs : List Int) : Nat → Nat
  | 0 => 5
  | j + 1 => tp zs j + dn zs j
theorem dn_le (zs : List Int) (i : Nat) : 1 ≤ dn zs i ∧ dn zs i ≤ 5 := by unfold dn; omega
theorem tp_le (zs : List Int) : ∀ j, 5 ≤ tp zs j ∧ tp zs j ≤ 5 + 5 * j
  | 0 => by simp [tp]
  | j + 1 => by have := tp_le zs j; have := dn_le zs j; simp only [tp]; omega
theorem tp_mono (zs : List Int) : ∀ (i j : Nat), i < j → tp zs i < tp zs j
  | i, 0, h => by omega
  | i, j + 1, h => by
    have h1 := dn_le zs j
    simp only [tp]
    rcases (by omega : i < j ∨ i = j) with h | rfl
    · have := tp_mono zs i j h; omega
    · omega
def lv (zs : List Int) (v : Int) : Nat → List (Int × Int)
  | 0 => []
  | j + 1 => lv zs v j ++ [(27, ((6 * j : Nat) : Int) + 2), (0, 0), (28, (dn zs j : Int)), (5, 0), (1, v), (7, 0)]
theorem lv_length (zs : List Int) (v : Int) : ∀ j, (lv zs v j).length = 6 * j
  | 0 => rfl
  | j + 1 => by rw [lv, List.length_append, lv_length zs v j]; simp; omega
theorem getD_right {α : Type} (a b : List α) (d : α) (i k : Nat) (h : i = a.length + k) : (a ++ b).getD i d = b.getD k d := by
  rw [List.getD_eq_getElem?_getD, List.getD_eq_getElem?_getD, List.getElem?_append_right (by omega), h, show a.length + k - a.length = k by omega]
theorem lv_getD (zs : List Int) (v : Int) : ∀ (n i : Nat) (l : List (Int × Int)), i < n →
    (lv zs v n ++ l).getD (6 * i) (0, 0) = (27, ((6 * i : Nat) : Int) + 2) ∧ (lv zs v n ++ l).getD (6 * i + 2) (0, 0) = (28, (dn zs i : Int)) ∧ (lv zs v n ++ l).getD (6 * i + 3) (0, 0) = (5, 0) ∧ (lv zs v n ++ l).getD (6 * i + 4) (0, 0) = (1, v) ∧ (lv zs v n ++ l).getD (6 * i + 5) (0, 0) = (7, 0)
  | 0, i, l, h => by omega
  | n + 1, i, l, h => by
    rw [lv, List.append_assoc]
    by_cases hi : i < n
    · exact lv_getD zs v n i _ hi
    · obtain rfl : i = n := by omega
      have hl := lv_length zs v i
      refine ⟨?_, ?_, ?_, ?_, ?_⟩
      · rw [getD_right _ _ _ _ 0 (by omega)]; rfl
      · rw [getD_right _ _ _ _ 2 (by omega)]; rfl
      · rw [getD_right _ _ _ _ 3 (by omega)]; rfl
      · rw [getD_right _ _ _ _ 4 (by omega)]; rfl
      · rw [getD_right _ _ _ _ 5 (by omega)]; rfl
def fcd (zs : List Int) (v : Int) : List (Int × Int) := lv zs v zs.length ++ [(29, 0)]
theorem fcd_length (zs : List Int) (v : Int) : (fcd zs v).length = 6 * zs.length + 1 := by rw [fcd, List.length_append, lv_length]; rfl
def fpn (zs : List Int) : Nat → Nat
  | 0 => 5
  | j + 1 => tp zs j
def kpt (zs : List Int) : Nat → List (Int × Int)
  | 0 => []
  | j + 1 => (((6 * j : Nat) : Int) + 1, (fpn zs j : Int)) :: kpt zs j
theorem kpt_length (zs : List Int) : ∀ j, (kpt zs j).length = j
  | 0 => rfl
  | j + 1 => by rw [kpt, List.length_cons, kpt_length zs j]
def fmem (zs : List Int) (v : Int) : Nat → List Int
  | 0 => zeros 200
  | j + 1 => ((fmem zs v j).take (tp zs j) ++ List.replicate (dn zs j) 0 ++ (fmem zs v j).drop (tp zs j + dn zs j)).set (tp zs j) v
theorem fmem_length (zs : List Int) (v : Int) : ∀ j, j ≤ 20 → (fmem zs v j).length = 200
  | 0, _ => by simp [fmem, zeros]
  | j + 1, h => by
    have h1 := fmem_length zs v j (by omega)
    have h2 := tp_le zs j
    have h3 := dn_le zs j
    simp only [fmem, List.length_set, List.length_append, List.length_take, List.length_replicate, List.length_drop]; omega
/-- At the beginning of each level's frame stands the word. -/
theorem fmem_at (zs : List Int) (v : Int) : ∀ (j i : Nat), j ≤ 20 → i < j → (fmem zs v j).getD (tp zs i) 0 = v
  | 0, i, _, h => by omega
  | j + 1, i, hj, h => by
    have h1 := fmem_length zs v j (by omega)
    have h2 := tp_le zs j
    have h3 := dn_le zs j
    simp only [fmem]
    rcases (by omega : i < j ∨ i = j) with hi | rfl
    · have h4 := tp_mono zs i j hi
      rw [List.getD_eq_getElem?_getD, List.getElem?_set_ne (by omega), List.append_assoc, List.getElem?_append_left (by rw [List.length_take]; omega), List.getElem?_take_of_lt h4, ← List.getD_eq_getElem?_getD]
      exact fmem_at zs v j i (by omega) hi
    · rw [List.getD_eq_getElem?_getD, List.getElem?_set_self (by simp only [List.length_append, List.length_take, List.length_replicate, List.length_drop]; omega)]; rfl
def fst' (zs : List Int) (v : Int) (j : Nat) : SSt := ⟨fcd zs v, fmem zs v j, [], [], (fpn zs j : Int), (tp zs j : Int), kpt zs j, ((6 * j : Nat) : Int), [], 0, 0⟩
theorem fst_five (zs : List Int) (v : Int) (j : Nat) (h : j < zs.length) (hz : zs.length ≤ 20) : (fst' zs v j).stepN 5 = fst' zs v (j + 1) := by
  obtain ⟨g0, g2, g3, g4, g5⟩ := lv_getD zs v zs.length j [(29, 0)] h
  have hl := fcd_length zs v
  have hm := fmem_length zs v j (by omega)
  have ht := tp_le zs j
  have hd := dn_le zs j
  have hk := kpt_length zs j
  have s1 : (fst' zs v j).step = { fst' zs v j with kept := kpt zs (j + 1), pc := ((6 * j : Nat) : Int) + 2 } := by
    rw [step_call (k := ((6 * j : Nat) : Int) + 2) rfl (by show (0 : Int) ≤ ((6 * j : Nat) : Int); omega) (by show ((6 * j : Nat) : Int) < ((fcd zs v).length : Int); omega) g0 (by show (kpt zs j).length < 1000; omega)]
    rfl
  have s2 : ({ fst' zs v j with kept := kpt zs (j + 1), pc := ((6 * j : Nat) : Int) + 2 } : SSt).step = { fst' zs v j with kept := kpt zs (j + 1), pc := ((6 * j : Nat) : Int) + 3, fp := (tp zs j : Int), top := (tp zs (j + 1) : Int), mem := (fmem zs v j).take (tp zs j) ++ List.replicate (dn zs j) 0 ++ (fmem zs v j).drop (tp zs j + dn zs j) } := by
    rw [step_enter (k := (dn zs j : Int)) rfl (by show (0 : Int) ≤ ((6 * j : Nat) : Int) + 2; omega) (by show ((6 * j : Nat) : Int) + 2 < ((fcd zs v).length : Int); omega) (by show (fcd zs v).getD (((6 * j : Nat) : Int) + 2).toNat (0, 0) = _; rw [show (((6 * j : Nat) : Int) + 2).toNat = 6 * j + 2 by omega]; exact g2) ⟨by omega, by show (dn zs j : Int) ≤ ((fmem zs v j).length : Int) - (tp zs j : Int); omega⟩]
    have e1 : ((tp zs j : Int) + (dn zs j : Int)).toNat = tp zs j + dn zs j := by omega
    have e2 : ((6 * j : Nat) : Int) + 2 + 1 = ((6 * j : Nat) : Int) + 3 := by omega
    have e3 : (tp zs j : Int) + (dn zs j : Int) = ((tp zs (j + 1) : Nat) : Int) := by simp [tp]
    show ({ fst' zs v j with kept := kpt zs (j + 1), pc := ((6 * j : Nat) : Int) + 2 + 1, fp := (tp zs j : Int), top := (tp zs j : Int) + (dn zs j : Int), mem := (fmem zs v j).take (tp zs j : Int).toNat ++ List.replicate (dn zs j : Int).toNat 0 ++ (fmem zs v j).drop ((tp zs j : Int) + (dn zs j : Int)).toNat } : SSt) = _
    rw [e1, e2, e3, Int.toNat_natCast, Int.toNat_natCast]
  obtain ⟨M, hM⟩ : ∃ M, M = (fmem zs v j).take (tp zs j) ++ List.replicate (dn zs j) 0 ++ (fmem zs v j).drop (tp zs j + dn zs j) := ⟨_, rfl⟩
  have hMl : M.length = 200 := by rw [hM]; simp only [List.length_append, List.length_take, List.length_replicate, List.length_drop]; omega
  rw [← hM] at s2
  have ew : wrap32 ((tp zs j : Int) + 0) = (tp zs j : Int) := by rw [Int.add_zero]; exact IntWalk.wrap32_in _ (by omega)
  have s3 : ({ fst' zs v j with kept := kpt zs (j + 1), pc := ((6 * j : Nat) : Int) + 3, fp := (tp zs j : Int), top := (tp zs (j + 1) : Int), mem := M } : SSt).step = { fst' zs v j with kept := kpt zs (j + 1), pc := ((6 * j : Nat) : Int) + 4, fp := (tp zs j : Int), top := (tp zs (j + 1) : Int), mem := M, st := [(tp zs j : Int)] } := by
    rw [step_local (k := 0) rfl (by show (0 : Int) ≤ ((6 * j : Nat) : Int) + 3; omega) (by show ((6 * j : Nat) : Int) + 3 < ((fcd zs v).length : Int); omega) (by show (fcd zs v).getD (((6 * j : Nat) : Int) + 3).toNat (0, 0) = _; rw [show (((6 * j : Nat) : Int) + 3).toNat = 6 * j + 3 by omega]; exact g3) (by show (0 : Nat) < 1000; decide)]
    show ({ fst' zs v j with kept := kpt zs (j + 1), pc := ((6 * j : Nat) : Int) + 3 + 1, fp := (tp zs j : Int), top := (tp zs (j + 1) : Int), mem := M, st := [wrap32 ((tp zs j : Int) + 0)] } : SSt) = _
    rw [ew, show ((6 * j : Nat) : Int) + 3 + 1 = ((6 * j : Nat) : Int) + 4 by omega]
  have s4 : ({ fst' zs v j with kept := kpt zs (j + 1), pc := ((6 * j : Nat) : Int) + 4, fp := (tp zs j : Int), top := (tp zs (j + 1) : Int), mem := M, st := [(tp zs j : Int)] } : SSt).step = { fst' zs v j with kept := kpt zs (j + 1), pc := ((6 * j : Nat) : Int) + 5, fp := (tp zs j : Int), top := (tp zs (j + 1) : Int), mem := M, st := [v, (tp zs j : Int)] } := by
    rw [step_push (k := v) rfl (by show (0 : Int) ≤ ((6 * j : Nat) : Int) + 4; omega) (by show ((6 * j : Nat) : Int) + 4 < ((fcd zs v).length : Int); omega) (by show (fcd zs v).getD (((6 * j : Nat) : Int) + 4).toNat (0, 0) = _; rw [show (((6 * j : Nat) : Int) + 4).toNat = 6 * j + 4 by omega]; exact g4) (by show (1 : Nat) < 1000; decide)]
    show ({ fst' zs v j with kept := kpt zs (j + 1), pc := ((6 * j : Nat) : Int) + 4 + 1, fp := (tp zs j : Int), top := (tp zs (j + 1) : Int), mem := M, st := [v, (tp zs j : Int)] } : SSt) = _
    rw [show ((6 * j : Nat) : Int) + 4 + 1 = ((6 * j : Nat) : Int) + 5 by omega]
  have s5 : ({ fst' zs v j with kept := kpt zs (j + 1), pc := ((6 * j : Nat) : Int) + 5, fp := (tp zs j : Int), top := (tp zs (j + 1) : Int), mem := M, st := [v, (tp zs j : Int)] } : SSt).step = fst' zs v (j + 1) := by
    rw [step_store (x := v) (p := (tp zs j : Int)) (t := []) rfl (by show (0 : Int) ≤ ((6 * j : Nat) : Int) + 5; omega) (by show ((6 * j : Nat) : Int) + 5 < ((fcd zs v).length : Int); omega) (by show (fcd zs v).getD (((6 * j : Nat) : Int) + 5).toNat (0, 0) = _; rw [show (((6 * j : Nat) : Int) + 5).toNat = 6 * j + 5 by omega]; exact g5) rfl ⟨by omega, by omega, by show (1 : Int) ≤ (M.length : Int) - (tp zs j : Int); omega⟩]
    show ({ fst' zs v j with kept := kpt zs (j + 1), pc := ((6 * j : Nat) : Int) + 5 + 1, fp := (tp zs j : Int), top := (tp zs (j + 1) : Int), mem := M.set (tp zs j : Int).toNat v, st := [] } : SSt) = _
    rw [Int.toNat_natCast, show ((6 * j : Nat) : Int) + 5 + 1 = ((6 * (j + 1) : Nat) : Int) by omega, hM]
    rfl
  show ((((fst' zs v j).step.step).step).step).step = _
  rw [s1, s2, s3, s4, s5]
theorem fst_all (zs : List Int) (v : Int) (hz : zs.length ≤ 20) : ∀ j, j ≤ zs.length → (fst' zs v 0).stepN (5 * j) = fst' zs v j
  | 0, _ => rfl
  | j + 1, h => by rw [show 5 * (j + 1) = 5 * j + 5 by omega, SSt.stepN_add, fst_all zs v hz j (by omega), fst_five zs v j (by omega) hz]
theorem fst_leave (zs : List Int) (v : Int) (n : Nat) (hn : zs.length = n + 1) : ((fst' zs v (n + 1)).step).top = (tp zs n : Int) := by
  have hl := fcd_length zs v
  have hat : (fcd zs v).getD (6 * (n + 1)) (0, 0) = (29, 0) := by
    unfold fcd
    rw [getD_right _ _ _ _ 0 (by rw [lv_length, hn]; omega)]; rfl
  rw [step_leave (x := (((6 * n : Nat) : Int) + 1, (fpn zs n : Int))) (t := kpt zs n) rfl (by show (0 : Int) ≤ ((6 * (n + 1) : Nat) : Int); omega) (by show ((6 * (n + 1) : Nat) : Int) < ((fcd zs v).length : Int); omega) hat rfl]
  rfl
theorem fst_new (zs : List Int) (v : Int) : SSt.new (fcd zs v) 200 5 [] = fst' zs v 0 := rfl
theorem fcd_ok {zs : List Int} {v : Int} (hv : I32 v) (hl : zs.length ≤ 20) : CodeOk (fcd zs v) := by
  have hz : I32 0 := by unfold I32; omega
  have hs : ∀ n, n ≤ zs.length → CodeOk (lv zs v n) := by
    intro n
    induction n with
    | zero => intro _ c hc; cases hc
    | succ n ih =>
      intro hn c hc
      have hd := dn_le zs n
      rcases List.mem_append.1 hc with h | h
      · exact ih (by omega) c h
      · simp only [List.mem_cons, List.not_mem_nil, or_false] at h
        rcases h with rfl | rfl | rfl | rfl | rfl | rfl
        · exact ⟨by show (-9223372036854775808 : Int) ≤ 27; decide, by show (27 : Int) ≤ 9223372036854775807; decide, by unfold I32; show -2147483648 ≤ ((6 * n : Nat) : Int) + 2 ∧ ((6 * n : Nat) : Int) + 2 ≤ 2147483647; omega⟩
        · exact ⟨by decide, by decide, hz⟩
        · exact ⟨by show (-9223372036854775808 : Int) ≤ 28; decide, by show (28 : Int) ≤ 9223372036854775807; decide, by unfold I32; show -2147483648 ≤ (dn zs n : Int) ∧ (dn zs n : Int) ≤ 2147483647; omega⟩
        · exact ⟨by decide, by decide, hz⟩
        · exact ⟨by show (-9223372036854775808 : Int) ≤ 1; decide, by show (1 : Int) ≤ 9223372036854775807; decide, hv⟩
        · exact ⟨by decide, by decide, hz⟩
  intro c hc
  rcases List.mem_append.1 hc with h | h
  · exact hs _ (Nat.le_refl _) c h
  · simp only [List.mem_cons, List.not_mem_nil, or_false] at h
    subst h
    exact ⟨by decide, by decide, hz⟩
end Go.Proofs.Ytgkdphnhfjjepaa

/- The contract of StackFrames. -/
namespace Go.Proofs.Ytgkdphnhfjjepaa
open Go.RowKit Go.Waf
set_option maxRecDepth 100000
set_option linter.unusedVariables false
set_option linter.unusedSimpArgs false

theorem codeCells_append' (a b : List (Int × Int)) : codeCells (a ++ b) = codeCells a ++ codeCells b := by simp [codeCells]
theorem dn_mod {x : Int} (h0 : 0 ≤ x) (h1 : x ≤ 255) {e : Nat} (he : x % 5 = (e : Int)) : x.tmod 5 = e := by rw [Int.tmod_eq_emod_of_nonneg h0]; exact he
set_option maxHeartbeats 6400000 in
theorem stackFrames_any (a0 : Option Addr) (len0 cap0 : Nat) (z0 : List Int) (v : Int) (w : World) (w0 : RowOf .u8 w a0 len0 cap0 z0) (w1 : (Lit.int .i32 v).wf = true) :
    Calls Try.prog 9 #[.slice a0 len0 cap0, .int .i32 v] w fun e w' => e = .returned (.bool true) ∧ Below w.heap.size w w' := by
  have hv : I32 v := rng_i32 w1
  obtain ⟨l0, l1⟩ := w0.bounds
  have KN := Lib.hid (fun W => known_any W)
  by_cases hbig : 20 < len0
  · clear w0 w1
    go_enter Try.func9, Try.ntmps9
    go_wp2_with (go_at_call 11; refine (KN.out _).mono ?_; rintro e w1 ⟨rfl, hb1⟩)
    go_ret
    exact ⟨rfl, hb1⟩
  have rd := w0.rd
  have hx := byt_of_row w0
  have hxl := w0.len
  obtain ⟨zs, hzs⟩ : ∃ c, c = z0.take len0 := ⟨_, rfl⟩
  rw [← hzs] at rd hx hxl
  have rd' : Rd w 1 (.slice a0 len0 cap0) len0 (byt zs) := rd
  have RDX := Lib.hid rd'
  have HX := Lib.hid hx
  have HXL := Lib.hid hxl
  have hl20 : len0 ≤ 20 := by omega
  have HV := Lib.hid hv
  have HAT := Lib.hid (fun i hi => fmem_at zs v zs.length i (by omega) hi)
  have HALL := Lib.hid (fst_all zs v (by omega) zs.length (Nat.le_refl _))
  have HML := Lib.hid (fmem_length zs v zs.length (by omega))
  have e5 : IntKind.i64.wrap (5 * (len0 : Int)) = 5 * (len0 : Int) := IntWalk.i64_in _ (by omega)
  have hd20 : decide (20 < (len0 : Int)) = false := by simp; omega
  clear w0 w1 rd hx hzs rd' hxl hv
  go_enter Try.func9, Try.ntmps9
  go_wp2_with (go_at_call 11; refine (KN.out _).mono ?_; rintro e wc ⟨rfl, hbc⟩; have HBC := Lib.hid hbc; clear hbc)
  go_loopw [5, 6] (fun c i wr => ∃ j L : Nat, j ≤ len0 ∧ L = 6 * j ∧ i = .int .i64 j ∧ wr.ownsRow w.heap.size 25 2 c L (codeCells (lv zs v j)) ∧ Below w.heap.size w wr) (fun _ i _ => len0 - (intOf i).toNat)
  case atStart => exact ⟨0, 0, by omega, rfl, rfl, World.ownsRow_nil _ _ _ _, HBC.out⟩
  case round =>
    obtain ⟨j, L, hj, hL, rfl, hown, hb⟩ := hrel
    have HB := Lib.hid hb
    have HOWN := Lib.hid hown
    have hsz := hb.size
    have hL2 : L ≤ 120 := by omega
    have HLE := Lib.hid hL
    obtain ⟨ca, cc, rfl, _⟩ := owns_shape hown
    by_cases hlt : j < len0
    · obtain ⟨hcl, a', c', he, _, _, _, hc4⟩ := RDX.out.below hb (Nat.le_refl _)
      obtain ⟨b, off, rfl, hcc⟩ := hc4 (by omega)
      injection he with ha hn1 hc1
      subst ha
      clear hn1 hc1
      have cx : wr.cell? ⟨b, off + j, none⟩ = some (.int .u8 (zs.getD j 0)) := hcc j _ (byt_get zs j (by have := HXL.out; omega))
      have hxb : Byt (zs.getD j 0) := HX.out _ (by rw [List.getD_eq_getElem?_getD, List.getElem?_eq_getElem (by have := HXL.out; omega)]; simp)
      unfold Byt at hxb
      obtain ⟨d, hd⟩ := Int.eq_ofNat_of_zero_le (show 0 ≤ zs.getD j 0 % 5 by omega)
      have hd4 : d ≤ 4 := by omega
      have eT := dn_mod hxb.1 hxb.2 hd
      have hdn : dn zs j = d + 1 := by unfold dn; rw [hd]; rfl
      obtain ⟨x, hx⟩ : ∃ x, x = zs.getD j 0 := ⟨_, rfl⟩
      rw [← hx] at cx hxb eT
      obtain ⟨x0, x1⟩ := hxb
      have HDN := Lib.hid hdn
      have k0 : (0 : Int) ≤ (j : Int) := by omega
      have k1 : (j : Int) < (len0 : Int) := by omega
      have eL : IntKind.i64.wrap ((L : Int) + 2) = (L : Int) + 2 := IntWalk.i64_in _ (by omega)
      have eL2 : IntKind.i32.wrap ((L : Int) + 2) = (L : Int) + 2 := IntWalk.i32_in _ (by omega)
      have ed : IntKind.i32.wrap (d : Int) = d := IntWalk.i32_in _ (by omega)
      have ed1 : IntKind.i32.wrap ((d : Int) + 1) = (d : Int) + 1 := IntWalk.i32_in _ (by omega)
      clear hcl hc4 hcc hx hb hown hd hdn hL
      go_wp2_with (at_builtin; refine app_own _ elemCd rfl _ _ rfl w.heap.size _ L (codeCells (lv zs v j)) rfl (HOWN.out.alloc _) _ 6 (codeCells [(27, (L : Int) + 2), (0, 0), (28, (d : Int) + 1), (5, 0), (1, v), (7, 0)]) rfl (rd_new wr (codeCells [(27, (L : Int) + 2), (0, 0), (28, (d : Int) + 1), (5, 0), (1, v), (7, 0)]) 25 6 2 rfl (by decide)) (one_code _) (by simp only [maxLen]; omega) (by omega) (by simp; omega) ?_; intro v' w3 hown3 hg3)
      go_roundw
      case rel => exact ⟨j + 1, L + 6, by omega, by have := HLE.out; omega, by go_num, by
          rw [lv, codeCells_append', HDN.out, ← HLE.out]; exact hown3, below_of_grown (HB.out.alloc HB.out.size _) (by simp; omega) (HOWN.out.alloc _) (Nat.le_refl _) rfl hg3⟩
      case measure => simp [intOf]; omega
    · obtain rfl : j = len0 := by omega
      clear hb hown hL
      go_wp2_with (at_builtin; refine app_own _ elemCd rfl _ _ rfl w.heap.size _ L (codeCells (lv zs v j)) rfl (HOWN.out.alloc _) _ 1 (codeCells [(29, 0)]) rfl (rd_new wr (codeCells [(29, 0)]) 25 1 2 rfl (by decide)) (one_code _) (by simp only [maxLen]; omega) (by omega) (by simp; omega) ?_; intro v' w3 hown3 hg3; have hb3 := below_of_grown (HB.out.alloc HB.out.size _) (by simp; omega) (HOWN.out.alloc _) (Nat.le_refl _) rfl hg3; obtain ⟨va, vc, rfl, _⟩ := owns_shape hown3; have hrc := rd_of_owns hown3; have HB3 := Lib.hid hb3; have HRC := Lib.hid hrc; clear hown3 hg3 hb3 hrc)
      have hrc : Rd w3 2 (.slice va (L + 1) vc) (fcd zs v).length (codeCells (fcd zs v)) := by
        have := HRC.out
        rw [← codeCells_append'] at this
        rw [fcd_length, HXL.out, ← HLE.out]
        unfold fcd
        rw [HXL.out]; exact this
      refine (pnew_any _ _ _ 200 200 5 (.inl rfl) (fcd zs v) [] (fcd_ok HV.out (by rw [HXL.out]; omega)) (by rw [fcd_length, HXL.out]; omega) (by simp) (by simp) (by omega) hrc (Rd.nil _ 1)).mono ?_
      rintro e w5 ⟨Q, F, cv, mv, iv, rfl, hM, _, _, hb5⟩
      have HM := Lib.hid (show SM true w5 w3.heap.size Q F cv mv iv (.slice none 0 0) (.slice none 0 0) (.slice none 0 0) (fst' zs v 0) from hM)
      have HB5 := Lib.hid (HB3.out.trans (hb5.mono HB3.out.size))
      clear hM hb5 hrc
      go_wp2_with fail
      refine (prun_any HM.out (5 * (j : Int)) (by omega) (by omega) (by simp [fst'])).mono ?_
      rintro e w6 ⟨vr, he, ho, F', iv', sv', kv', ov', hM6, _, hmv⟩
      have hfu : (5 * (j : Int)).toNat = 5 * zs.length := by rw [HXL.out]; omega
      rw [hfu, HALL.out] at he hM6
      have HB6 := Lib.hid (HB5.out.trans (HM.out.fr_below HB3.out.size hmv))
      have HM6 := Lib.hid hM6
      have HW3 := Lib.hid (show w.heap.size ≤ w3.heap.size from HB3.out.size)
      subst he
      obtain ⟨vra, vrc, rfl, _⟩ := owns_shape ho
      clear hfu hmv hM6 ho
      go_wp2_with fail
      go_loop [8, 9] (fun tv i => ∃ m t : Nat, m ≤ j ∧ t = tp zs m ∧ i = .int .i64 m ∧ tv = .int .i64 t) (fun _ i => j - (intOf i).toNat)
      case atStart => exact ⟨0, 5, by omega, rfl, rfl, rfl⟩
      case round =>
        obtain ⟨m, t, hm, ht, rfl, rfl⟩ := hrel
        have htl := tp_le zs m
        have ht5 : 5 ≤ t ∧ t ≤ 105 := by omega
        obtain ⟨ht5a, ht5b⟩ := ht5
        have HTE := Lib.hid ht
        clear ht htl
        by_cases hlt2 : m < j
        · have hW := pword_any HM6.out t (by show t < (fmem zs v zs.length).length; rw [HML.out]; omega)
          have hW' : Calls Try.prog 23 #[.pointer (some ⟨Q, 0, none⟩), .int .i64 t] w6 fun e w' => e = .returned (.tuple #[.int .i32 v, .bool true]) ∧ w6 = w' := by
            have h2 : (fst' zs v zs.length).mem.getD t 0 = v := by
              show (fmem zs v zs.length).getD t 0 = v
              rw [HTE.out]; exact HAT.out m (by rw [HXL.out]; exact hlt2)
            rw [h2] at hW; exact hW
          have HWW := Lib.hid hW'
          obtain ⟨hcl, a', c', he, _, _, _, hc4⟩ := RDX.out.below HB6.out (Nat.le_refl _)
          obtain ⟨b, off, rfl, hcc⟩ := hc4 (by omega)
          injection he with ha hn1 hc1
          subst ha
          clear hn1 hc1
          have cx : w6.cell? ⟨b, off + m, none⟩ = some (.int .u8 (zs.getD m 0)) := hcc m _ (byt_get zs m (by have := HXL.out; omega))
          have hxb : Byt (zs.getD m 0) := HX.out _ (by rw [List.getD_eq_getElem?_getD, List.getElem?_eq_getElem (by have := HXL.out; omega)]; simp)
          unfold Byt at hxb
          obtain ⟨d, hd⟩ := Int.eq_ofNat_of_zero_le (show 0 ≤ zs.getD m 0 % 5 by omega)
          have hd4 : d ≤ 4 := by omega
          have eT := dn_mod hxb.1 hxb.2 hd
          have hdn : dn zs m = d + 1 := by unfold dn; rw [hd]; rfl
          obtain ⟨x, hx⟩ : ∃ x, x = zs.getD m 0 := ⟨_, rfl⟩
          rw [← hx] at cx hxb eT
          obtain ⟨x0, x1⟩ := hxb
          have HDN := Lib.hid hdn
          have k0 : (0 : Int) ≤ (m : Int) := by omega
          have k1 : (m : Int) < (j : Int) := by omega
          have ed : IntKind.i64.wrap (d : Int) = d := IntWalk.i64_in _ (by omega)
          clear hcl hc4 hcc hx hd hdn hW hW'
          go_wp2_with (go_at_call 23; refine HWW.out.mono ?_; rintro e w' ⟨rfl, rfl⟩)
          go_round
          case rel => exact ⟨m + 1, t + (d + 1), by omega, by simp only [tp]; rw [HDN.out, HTE.out], by go_num, by go_num⟩
          case measure => simp [intOf]; omega
        · obtain rfl : m = j := by omega
          have hF := pframe_any HM6.out
          have hF' : Calls Try.prog 32 #[.pointer (some ⟨Q, 0, none⟩)] w6 fun e w' => e = .returned (.tuple #[.int .i64 (fpn zs m : Int), .int .i64 (t : Int)]) ∧ ∃ n, w' = w6.drewN n := by
            have h1 : (fst' zs v zs.length).fp = (fpn zs m : Int) := by show (fpn zs zs.length : Int) = _; rw [HXL.out]
            have h2 : (fst' zs v zs.length).top = (t : Int) := by show (tp zs zs.length : Int) = _; rw [HXL.out, HTE.out]
            rw [h1, h2] at hF; exact hF
          have HFF := Lib.hid hF'
          clear hF hF'
          go_wp2_with fail
          refine HFF.out.mono ?_
          rintro e w7 ⟨rfl, n7, hw7⟩
          have hb67 : Below w6.heap.size w6 w7 := by rw [hw7]; exact below_of_drewN
          have HM7 := Lib.hid (HM6.out.below hb67)
          have HB7 := Lib.hid (HB6.out.trans (hb67.mono HB6.out.size))
          clear hw7 hb67
          by_cases hm0 : m = 0
          · have hmz : ((m : Int) == 0) = true := by simp; exact hm0
            have HM0 := Lib.hid hm0
            clear hm0
            go_wp2_with fail
            go_ret
            exact ⟨rfl, HB7.out⟩
          · have hmz : ((m : Int) == 0) = false := by simp; exact hm0
            have hmz2 : (m == 0) = false := by simp; exact hm0
            obtain ⟨n, hn⟩ : ∃ n, m = n + 1 := ⟨m - 1, by omega⟩
            have HS := Lib.hid (pstep_any HM7.out (by show ([] : List Int).length ≤ 1000000; simp))
            have hLV := fst_leave zs v n (by rw [HXL.out, hn])
            rw [← hn] at hLV
            have HLV := Lib.hid hLV
            have HN := Lib.hid hn
            clear hLV
            go_wp2_with fail
            refine HS.out.mono ?_
            rintro e w8 ⟨rfl, F8, iv8, sv8, kv8, ov8, hM8, _, hmv8⟩
            have hF := pframe_any hM8
            have h2 : (fst' zs v zs.length).step.top = (tp zs n : Int) := by rw [HXL.out]; exact HLV.out
            rw [h2] at hF
            obtain ⟨fp8, hfp8⟩ : ∃ f, f = (fst' zs v zs.length).step.fp := ⟨_, rfl⟩
            rw [← hfp8] at hF
            obtain ⟨tn, htn⟩ : ∃ t, t = tp zs n := ⟨_, rfl⟩
            rw [← htn] at hF
            have HF8 := Lib.hid hF
            have HTN := Lib.hid htn
            have HB8 := Lib.hid (HB7.out.trans (HM7.out.fr_below HW3.out hmv8))
            clear hM8 hmv8 hF h2 hfp8 htn
            go_wp2_with fail
            refine HF8.out.mono ?_
            rintro e w9 ⟨rfl, n9, hw9⟩
            have hb89 : Below w8.heap.size w8 w9 := by rw [hw9]; exact below_of_drewN
            have hb9 := HB8.out.trans (hb89.mono HB8.out.size)
            obtain ⟨hcl, a', c', he, _, _, _, hc4⟩ := RDX.out.below hb9 (Nat.le_refl _)
            obtain ⟨b, off, rfl, hcc⟩ := hc4 (by omega)
            injection he with ha hn1 hc1
            subst ha
            clear hn1 hc1
            have cx : w9.cell? ⟨b, off + n, none⟩ = some (.int .u8 (zs.getD n 0)) := hcc n _ (byt_get zs n (by have := HXL.out; omega))
            have hxb : Byt (zs.getD n 0) := HX.out _ (by rw [List.getD_eq_getElem?_getD, List.getElem?_eq_getElem (by have := HXL.out; omega)]; simp)
            unfold Byt at hxb
            obtain ⟨d, hd⟩ := Int.eq_ofNat_of_zero_le (show 0 ≤ zs.getD n 0 % 5 by omega)
            have hd4 : d ≤ 4 := by omega
            have eT := dn_mod hxb.1 hxb.2 hd
            have hdn : dn zs n = d + 1 := by unfold dn; rw [hd]; rfl
            have htt : (t : Int) = (tn : Int) + ((d : Int) + 1) := by
              have h1 := HTE.out
              rw [HN.out] at h1
              simp only [tp] at h1
              rw [hdn, ← HTN.out] at h1
              omega
            obtain ⟨x, hx⟩ : ∃ x, x = zs.getD n 0 := ⟨_, rfl⟩
            rw [← hx] at cx hxb eT
            obtain ⟨x0, x1⟩ := hxb
            have ed : IntKind.i64.wrap (d : Int) = d := IntWalk.i64_in _ (by omega)
            have em : IntKind.i64.wrap ((m : Int) - 1) = n := by rw [show (m : Int) - 1 = n by omega]; exact IntWalk.i64_in _ (by omega)
            have em1 : (m : Int) - 1 = (n : Int) := by omega
            have k0 : (0 : Int) ≤ (n : Int) := by omega
            have k1 : (n : Int) < (m : Int) := by omega
            have e9 : IntKind.i64.wrap ((t : Int) - (d : Int)) = (tn : Int) + 1 := by rw [show (t : Int) - (d : Int) = (tn : Int) + 1 by omega]; exact IntWalk.i64_in _ (by omega)
            have e9b : (t : Int) - (d : Int) = (tn : Int) + 1 := by omega
            have HB9 := Lib.hid hb9
            clear hcl hc4 hcc hx hd hdn hw9 hb89 hb9 hn htt
            go_wp2_with fail
            go_ret
            exact ⟨by simp, HB9.out⟩
end Go.Proofs.Ytgkdphnhfjjepaa
