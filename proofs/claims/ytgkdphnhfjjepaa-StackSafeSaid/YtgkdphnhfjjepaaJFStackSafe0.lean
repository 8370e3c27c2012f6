/- The walks and the plain lemmas of the statement, joined: part 8. No condition. -/
import Derived.WalkSmall
import Derived.Deep.QuietTactic
import Derived.BigQuiet
import Derived.RegionTactic
import Derived.StillTailTactics
import Derived.Deep.LoopGhost
import Derived.Laws.OwnMore
import Derived.Deep.RegionHeld3
import Derived.WalkSpells
import Derived.Deep.RegionWith
import Derived.Deep.CutBlock
import Derived.Deep.DeepCutAuto
import Derived.Test.YtgkdphnhfjjepaaJStk427
import Derived.Test.YtgkdphnhfjjepaaJStk422
import Derived.Test.YtgkdphnhfjjepaaJStk420
import Derived.Test.YtgkdphnhfjjepaaJStk424

/- StackMoves, StackFrames: steps by what stands at a place; the code that stores a list, and moves words of it (plain). -/
namespace Go.Proofs.Ytgkdphnhfjjepaa
open Go.RowKit Go.Waf
set_option maxRecDepth 100000
set_option linter.unusedVariables false
set_option linter.unusedSimpArgs false

theorem step_of {s : SSt} {op k : Int} (hf : s.fin = 0) (h0 : 0 ≤ s.pc) (h1 : s.pc < s.code.length) (hat : s.code.getD s.pc.toNat (0, 0) = (op, k)) (hg : goodC (op, k) = true) : s.step = (s.next.exec op k).getD s.fault := by
  unfold SSt.step
  rw [if_pos hf]
  unfold SSt.step1 SSt.try1
  have e : s.at' = (op, k) := hat
  rw [if_pos ⟨h0, h1⟩, e, if_pos hg]
theorem step_push {s : SSt} {k : Int} (hf : s.fin = 0) (h0 : 0 ≤ s.pc) (h1 : s.pc < s.code.length) (hat : s.code.getD s.pc.toNat (0, 0) = (1, k)) (hl : s.st.length < 1000) : s.step = { s with st := k :: s.st, pc := s.pc + 1 } := by
  rw [step_of hf h0 h1 hat (by simp [goodC, hasK])]
  have e : s.next.exec 1 k = s.next.lay k := rfl
  rw [e, lay_some (s := s.next) hl]; rfl
theorem step_store {s : SSt} {x p : Int} {t : List Int} (hf : s.fin = 0) (h0 : 0 ≤ s.pc) (h1 : s.pc < s.code.length) (hat : s.code.getD s.pc.toNat (0, 0) = (7, 0)) (hst : s.st = x :: p :: t) (hok : okAt s p 1) : s.step = { s with st := t, mem := s.mem.set p.toNat x, pc := s.pc + 1 } := by
  rw [step_of hf h0 h1 hat (by simp [goodC, hasK])]
  have e : s.next.exec 7 0 = (match s.next.st with | x :: p :: t => (if okAt s.next p 1 then some { s.next with st := t, mem := s.next.mem.set p.toNat x } else none) | _ => none) := rfl
  rw [e, show s.next.st = x :: p :: t from hst]
  simp only
  rw [if_pos (show okAt s.next p 1 from hok)]; rfl
theorem step_move {s : SSt} {q p k : Int} {t : List Int} (hf : s.fin = 0) (h0 : 0 ≤ s.pc) (h1 : s.pc < s.code.length) (hat : s.code.getD s.pc.toNat (0, 0) = (8, k)) (hst : s.st = q :: p :: t) :
    s.step = if okAt s q k ∧ okAt s p k then { s with st := t, mem := s.mem.take p.toNat ++ (s.mem.drop q.toNat).take k.toNat ++ s.mem.drop (p.toNat + k.toNat), pc := s.pc + 1 } else s.fault := by
  rw [step_of hf h0 h1 hat (by simp [goodC, hasK])]
  have e : s.next.exec 8 k = (match s.next.st with | q :: p :: t => (if okAt s.next q k ∧ okAt s.next p k then some { s.next with st := t, mem := s.next.mem.take p.toNat ++ (s.next.mem.drop q.toNat).take k.toNat ++ s.next.mem.drop (p.toNat + k.toNat) } else none) | _ => none) := rfl
  rw [e, show s.next.st = q :: p :: t from hst]
  simp only
  by_cases h : okAt s q k ∧ okAt s p k
  · rw [if_pos h, if_pos (show okAt s.next q k ∧ okAt s.next p k from h)]; rfl
  · rw [if_neg h, if_neg (show ¬ (okAt s.next q k ∧ okAt s.next p k) from h)]; rfl
theorem step_halt {s : SSt} (hf : s.fin = 0) (h0 : 0 ≤ s.pc) (h1 : s.pc < s.code.length) (hat : s.code.getD s.pc.toNat (0, 0) = (0, 0)) : s.step = { s with fin := 1 } := by
  rw [step_of hf h0 h1 hat (by simp [goodC, hasK])]
  show { s with fin := 1, pc := s.pc + 1 - 1 } = _
  rw [Int.add_sub_cancel]

/-- The code that stores a list's numbers, so many of them. -/
def stores (xs : List Int) : Nat → List (Int × Int)
  | 0 => []
  | j + 1 => stores xs j ++ [(1, (j : Int)), (1, xs.getD j 0), (7, 0)]
theorem stores_length (xs : List Int) : ∀ j, (stores xs j).length = 3 * j
  | 0 => rfl
  | j + 1 => by rw [stores, List.length_append, stores_length xs j]; simp; omega
theorem stores_getD (xs : List Int) : ∀ (n i : Nat) (l : List (Int × Int)), i < n → (stores xs n ++ l).getD (3 * i) (0, 0) = (1, (i : Int)) ∧ (stores xs n ++ l).getD (3 * i + 1) (0, 0) = (1, xs.getD i 0) ∧ (stores xs n ++ l).getD (3 * i + 2) (0, 0) = (7, 0)
  | 0, i, l, h => by omega
  | n + 1, i, l, h => by
    rw [stores, List.append_assoc]
    by_cases hi : i < n
    · exact stores_getD xs n i _ hi
    · obtain rfl : i = n := by omega
      have hl := stores_length xs i
      refine ⟨?_, ?_, ?_⟩
      · rw [List.getD_eq_getElem?_getD, List.getElem?_append_right (by omega), hl, Nat.sub_self]; rfl
      · rw [List.getD_eq_getElem?_getD, List.getElem?_append_right (by omega), hl, show 3 * i + 1 - 3 * i = 1 by omega]; rfl
      · rw [List.getD_eq_getElem?_getD, List.getElem?_append_right (by omega), hl, show 3 * i + 2 - 3 * i = 2 by omega]; rfl
def mcode (xs : List Int) (p q k : Int) : List (Int × Int) := stores xs xs.length ++ [(1, p), (1, q), (8, k), (0, 0)]
theorem mcode_length (xs : List Int) (p q k : Int) : (mcode xs p q k).length = 3 * xs.length + 4 := by rw [mcode, List.length_append, stores_length]; rfl
def mst (xs : List Int) (p q k : Int) (mem : List Int) (st : List Int) (pc : Int) : SSt := ⟨mcode xs p q k, mem, [], st, 0, 0, [], pc, [], 0, 0⟩
def laid (xs : List Int) (j : Nat) : List Int := xs.take j ++ List.replicate (xs.length - j) 0
theorem laid_length (xs : List Int) (j : Nat) (h : j ≤ xs.length) : (laid xs j).length = xs.length := by simp [laid]; omega
theorem laid_set (xs : List Int) (j : Nat) (h : j < xs.length) : (laid xs j).set j (xs.getD j 0) = laid xs (j + 1) := by
  unfold laid
  have hl : (xs.take j).length = j := by simp; omega
  rw [List.set_append_right _ _ (by omega), hl, Nat.sub_self, show xs.length - j = (xs.length - (j + 1)) + 1 by omega, List.replicate_succ, List.set_cons_zero, List.take_succ_eq_append_getElem h, List.append_assoc]
  congr 2
  simp [h]
theorem mst_three (xs : List Int) (p q k : Int) (j : Nat) (h : j < xs.length) : (mst xs p q k (laid xs j) [] ((3 * j : Nat) : Int)).stepN 3 = mst xs p q k (laid xs (j + 1)) [] ((3 * (j + 1) : Nat) : Int) := by
  obtain ⟨g0, g1, g2⟩ := stores_getD xs xs.length j [(1, p), (1, q), (8, k), (0, 0)] h
  have hl := mcode_length xs p q k
  have s1 : (mst xs p q k (laid xs j) [] ((3 * j : Nat) : Int)).step = mst xs p q k (laid xs j) [(j : Int)] ((3 * j + 1 : Nat) : Int) := by
    rw [step_push (k := (j : Int)) rfl (by show (0 : Int) ≤ ((3 * j : Nat) : Int); omega) (by show ((3 * j : Nat) : Int) < ((mcode xs p q k).length : Int); omega) g0 (by show (0 : Nat) < 1000; decide)]
    rfl
  have s2 : (mst xs p q k (laid xs j) [(j : Int)] ((3 * j + 1 : Nat) : Int)).step = mst xs p q k (laid xs j) [xs.getD j 0, (j : Int)] ((3 * j + 2 : Nat) : Int) := by
    rw [step_push (k := xs.getD j 0) rfl (by show (0 : Int) ≤ ((3 * j + 1 : Nat) : Int); omega) (by show ((3 * j + 1 : Nat) : Int) < ((mcode xs p q k).length : Int); omega) g1 (by show (1 : Nat) < 1000; decide)]
    rfl
  have s3 : (mst xs p q k (laid xs j) [xs.getD j 0, (j : Int)] ((3 * j + 2 : Nat) : Int)).step = mst xs p q k (laid xs (j + 1)) [] ((3 * (j + 1) : Nat) : Int) := by
    rw [step_store (x := xs.getD j 0) (p := (j : Int)) (t := []) rfl (by show (0 : Int) ≤ ((3 * j + 2 : Nat) : Int); omega) (by show ((3 * j + 2 : Nat) : Int) < ((mcode xs p q k).length : Int); omega) g2 rfl ⟨by omega, by omega, by show (1 : Int) ≤ ((laid xs j).length : Int) - j; rw [laid_length xs j (by omega)]; omega⟩]
    show ({ mst xs p q k ((laid xs j).set (j : Int).toNat (xs.getD j 0)) [] (((3 * j + 2 : Nat) : Int) + 1) with fin := 0 } : SSt) = _
    rw [Int.toNat_natCast, laid_set xs j h]
    rfl
  show ((mst xs p q k (laid xs j) [] ((3 * j : Nat) : Int)).step.step).step = _
  rw [s1, s2, s3]
theorem mst_all (xs : List Int) (p q k : Int) : ∀ j, j ≤ xs.length → (mst xs p q k (laid xs 0) [] 0).stepN (3 * j) = mst xs p q k (laid xs j) [] ((3 * j : Nat) : Int)
  | 0, _ => rfl
  | j + 1, h => by rw [show 3 * (j + 1) = 3 * j + 3 by omega, SSt.stepN_add, mst_all xs p q k j (by omega), mst_three xs p q k j (by omega)]; rfl
theorem laid_all (xs : List Int) : laid xs xs.length = xs := by simp [laid]
theorem mcode_last (xs : List Int) (p q k : Int) : (mcode xs p q k).getD (3 * xs.length) (0, 0) = (1, p) ∧ (mcode xs p q k).getD (3 * xs.length + 1) (0, 0) = (1, q) ∧ (mcode xs p q k).getD (3 * xs.length + 2) (0, 0) = (8, k) ∧ (mcode xs p q k).getD (3 * xs.length + 3) (0, 0) = (0, 0) := by
  have hl := stores_length xs xs.length
  unfold mcode
  refine ⟨?_, ?_, ?_, ?_⟩
  · rw [List.getD_eq_getElem?_getD, List.getElem?_append_right (by omega), hl, Nat.sub_self]; rfl
  · rw [List.getD_eq_getElem?_getD, List.getElem?_append_right (by omega), hl, show 3 * xs.length + 1 - 3 * xs.length = 1 by omega]; rfl
  · rw [List.getD_eq_getElem?_getD, List.getElem?_append_right (by omega), hl, show 3 * xs.length + 2 - 3 * xs.length = 2 by omega]; rfl
  · rw [List.getD_eq_getElem?_getD, List.getElem?_append_right (by omega), hl, show 3 * xs.length + 3 - 3 * xs.length = 3 by omega]; rfl
/-- What it comes to. -/
theorem mst_end (xs : List Int) (p q k : Nat) : (mst xs p q k (laid xs 0) [] 0).stepN (3 * xs.length + 4) =
    if q + k ≤ xs.length ∧ p + k ≤ xs.length then { mst xs p q k (splice xs p ((xs.drop q).take k)) [] ((3 * xs.length + 3 : Nat) : Int) with fin := 1 } else (mst xs p q k xs [(q : Int), (p : Int)] ((3 * xs.length + 2 : Nat) : Int)).fault := by
  obtain ⟨g0, g1, g2, g3⟩ := mcode_last xs p q k
  have hl := mcode_length xs p q k
  rw [SSt.stepN_add, mst_all xs p q k xs.length (Nat.le_refl _), laid_all]
  have s1 : (mst xs p q k xs [] ((3 * xs.length : Nat) : Int)).step = mst xs p q k xs [(p : Int)] ((3 * xs.length + 1 : Nat) : Int) := by
    rw [step_push (k := (p : Int)) rfl (by show (0 : Int) ≤ ((3 * xs.length : Nat) : Int); omega) (by show ((3 * xs.length : Nat) : Int) < ((mcode xs p q k).length : Int); omega) g0 (by show (0 : Nat) < 1000; decide)]
    rfl
  have s2 : (mst xs p q k xs [(p : Int)] ((3 * xs.length + 1 : Nat) : Int)).step = mst xs p q k xs [(q : Int), (p : Int)] ((3 * xs.length + 2 : Nat) : Int) := by
    rw [step_push (k := (q : Int)) rfl (by show (0 : Int) ≤ ((3 * xs.length + 1 : Nat) : Int); omega) (by show ((3 * xs.length + 1 : Nat) : Int) < ((mcode xs p q k).length : Int); omega) g1 (by show (1 : Nat) < 1000; decide)]
    rfl
  have s3 := step_move (s := mst xs p q k xs [(q : Int), (p : Int)] ((3 * xs.length + 2 : Nat) : Int)) (q := (q : Int)) (p := (p : Int)) (k := (k : Int)) (t := []) rfl (by show (0 : Int) ≤ ((3 * xs.length + 2 : Nat) : Int); omega) (by show ((3 * xs.length + 2 : Nat) : Int) < ((mcode xs p q k).length : Int); omega) g2 rfl
  show ((mst xs p q k xs [] ((3 * xs.length : Nat) : Int)).step.step.step).step = _
  rw [s1, s2, s3]
  by_cases hok : q + k ≤ xs.length ∧ p + k ≤ xs.length
  · have h1 : okAt (mst xs p q k xs [(q : Int), (p : Int)] ((3 * xs.length + 2 : Nat) : Int)) (q : Int) (k : Int) ∧ okAt (mst xs p q k xs [(q : Int), (p : Int)] ((3 * xs.length + 2 : Nat) : Int)) (p : Int) (k : Int) :=
      ⟨⟨by omega, by omega, by show (k : Int) ≤ (xs.length : Int) - q; omega⟩, ⟨by omega, by omega, by show (k : Int) ≤ (xs.length : Int) - p; omega⟩⟩
    rw [if_pos h1, if_pos hok]
    have e : ({ mst xs p q k xs [(q : Int), (p : Int)] ((3 * xs.length + 2 : Nat) : Int) with st := [], mem := (mst xs p q k xs [(q : Int), (p : Int)] ((3 * xs.length + 2 : Nat) : Int)).mem.take (p : Int).toNat ++ ((mst xs p q k xs [(q : Int), (p : Int)] ((3 * xs.length + 2 : Nat) : Int)).mem.drop (q : Int).toNat).take (k : Int).toNat ++ (mst xs p q k xs [(q : Int), (p : Int)] ((3 * xs.length + 2 : Nat) : Int)).mem.drop ((p : Int).toNat + (k : Int).toNat), pc := (mst xs p q k xs [(q : Int), (p : Int)] ((3 * xs.length + 2 : Nat) : Int)).pc + 1 } : SSt) = mst xs p q k (splice xs p ((xs.drop q).take k)) [] ((3 * xs.length + 3 : Nat) : Int) := by
      rw [splice_flat, List.length_take, List.length_drop, Nat.min_eq_left (by omega)]
      simp only [Int.toNat_natCast]
      rfl
    rw [e, step_halt rfl (by show (0 : Int) ≤ ((3 * xs.length + 3 : Nat) : Int); omega) (by show ((3 * xs.length + 3 : Nat) : Int) < ((mcode xs p q k).length : Int); omega) g3]
  · have h1 : ¬ (okAt (mst xs p q k xs [(q : Int), (p : Int)] ((3 * xs.length + 2 : Nat) : Int)) (q : Int) (k : Int) ∧ okAt (mst xs p q k xs [(q : Int), (p : Int)] ((3 * xs.length + 2 : Nat) : Int)) (p : Int) (k : Int)) := by
      rintro ⟨⟨_, _, a⟩, ⟨_, _, b⟩⟩
      have a' : (k : Int) ≤ (xs.length : Int) - q := a
      have b' : (k : Int) ≤ (xs.length : Int) - p := b
      omega
    rw [if_neg h1, if_neg hok]
    exact step_stop (by show (2 : Int) ≠ 0; decide)
theorem mst_new (xs : List Int) (p q k : Int) : SSt.new (mcode xs p q k) xs.length 0 [] = mst xs p q k (laid xs 0) [] 0 := by
  unfold SSt.new mst laid zeros
  simp
theorem mcode_ok {xs : List Int} {p q k : Int} (hx : ∀ x ∈ xs, I32 x) (hl : xs.length ≤ 1000) (hp : I32 p) (hq : I32 q) (hk : I32 k) : CodeOk (mcode xs p q k) := by
  have hz : I32 0 := by unfold I32; omega
  have hs : ∀ n, n ≤ xs.length → CodeOk (stores xs n) := by
    intro n
    induction n with
    | zero => intro _ c hc; cases hc
    | succ n ih =>
      intro hn c hc
      rcases List.mem_append.1 hc with h | h
      · exact ih (by omega) c h
      · simp only [List.mem_cons, List.not_mem_nil, or_false] at h
        rcases h with rfl | rfl | rfl
        · exact ⟨by show (-9223372036854775808 : Int) ≤ 1; decide, by show (1 : Int) ≤ 9223372036854775807; decide, by unfold I32; show -2147483648 ≤ (n : Int) ∧ (n : Int) ≤ 2147483647; omega⟩
        · exact ⟨by show (-9223372036854775808 : Int) ≤ 1; decide, by show (1 : Int) ≤ 9223372036854775807; decide, hx _ (by rw [List.getD_eq_getElem?_getD, List.getElem?_eq_getElem (by omega)]; simp)⟩
        · exact ⟨by decide, by decide, hz⟩
  intro c hc
  rcases List.mem_append.1 hc with h | h
  · exact hs _ (Nat.le_refl _) c h
  · simp only [List.mem_cons, List.not_mem_nil, or_false] at h
    rcases h with rfl | rfl | rfl | rfl
    · exact ⟨by show (-9223372036854775808 : Int) ≤ 1; decide, by show (1 : Int) ≤ 9223372036854775807; decide, hp⟩
    · exact ⟨by show (-9223372036854775808 : Int) ≤ 1; decide, by show (1 : Int) ≤ 9223372036854775807; decide, hq⟩
    · exact ⟨by show (-9223372036854775808 : Int) ≤ 8; decide, by show (8 : Int) ≤ 9223372036854775807; decide, hk⟩
    · exact ⟨by decide, by decide, hz⟩
theorem codeCells_append (a b : List (Int × Int)) : codeCells (a ++ b) = codeCells a ++ codeCells b := by simp [codeCells]
end Go.Proofs.Ytgkdphnhfjjepaa

/- StackSafe, plain: the heights tell how many operands there are. -/
namespace Go.Proofs.Ytgkdphnhfjjepaa
open Go.RowKit Go.Waf
set_option maxRecDepth 100000
set_option linter.unusedVariables false
set_option linter.unusedSimpArgs false

theorem reckon_len {s s' : SSt} {op : Int} (h : s.reckon op = some s') : s'.pc = s.pc ∧ (((op = 14 ∨ op = 18) ∧ 1 ≤ s.st.length ∧ s'.st.length = s.st.length) ∨ (¬ (op = 14 ∨ op = 18) ∧ 2 ≤ s.st.length ∧ s'.st.length + 1 = s.st.length)) := by
  unfold SSt.reckon at h
  rcases hst : s.st with _ | ⟨b, t⟩
  · rw [hst] at h; cases h
  rw [hst] at h
  simp only at h
  by_cases h14 : op = 14
  · rw [if_pos h14] at h; cases h; exact ⟨rfl, .inl ⟨.inl h14, by simp, by simp⟩⟩
  rw [if_neg h14] at h
  by_cases h18 : op = 18
  · rw [if_pos h18] at h; cases h; exact ⟨rfl, .inl ⟨.inr h18, by simp, by simp⟩⟩
  rw [if_neg h18] at h
  rcases t with _ | ⟨a, t⟩
  · cases h
  simp only at h
  obtain ⟨x, _, rfl⟩ := Option.map_eq_some_iff.1 h
  exact ⟨rfl, .inr ⟨by omega, by simp, by simp⟩⟩
theorem lay_len {s s' : SSt} {x : Int} (h : s.lay x = some s') : s'.pc = s.pc ∧ s'.st.length = s.st.length + 1 := by
  unfold SSt.lay at h
  split at h
  · cases h; exact ⟨rfl, by simp⟩
  · cases h
/-- What an instruction that is done does to the number of operands. -/
def LenP (s : SSt) (op k : Int) (s' : SSt) : Prop := s'.fin ≠ 0 ∨ (takesC op ≤ s.st.length ∧ (s'.st.length : Int) = s.st.length - takesC op + leavesC op ∧ ((endsC op = false ∧ s'.pc = s.pc) ∨ (jumpsC op = true ∧ s'.pc = k)))
theorem len_lay {s s' : SSt} {op k x : Int} (h1 : takesC op = 0) (h2 : leavesC op = 1) (h3 : endsC op = false) (h : s.lay x = some s') : LenP s op k s' := by
  obtain ⟨a, b⟩ := lay_len h
  exact .inr ⟨by rw [h1]; omega, by rw [h1, h2]; omega, .inl ⟨h3, a⟩⟩
theorem exec_len {s s' : SSt} {op k : Int} (hop : 0 ≤ op ∧ op < 34) (h27 : op ≠ 27) (h29 : op ≠ 29) (h : s.exec op k = some s') : LenP s op k s' := by
  by_cases hr : 9 ≤ op ∧ op ≤ 24
  · have e : s.exec op k = s.reckon op := by unfold SSt.exec; rw [if_pos hr]
    rw [e] at h
    obtain ⟨h1, h2⟩ := reckon_len h
    refine .inr ?_
    have hends : endsC op = false := by
      unfold endsC
      simp only [Bool.or_eq_false_iff, beq_eq_false_iff_ne]
      refine ⟨⟨⟨?_, ?_⟩, ?_⟩, ?_⟩ <;> omega
    rcases h2 with ⟨ho, h3, h4⟩ | ⟨ho, h3, h4⟩
    · have t : takesC op = 1 ∧ leavesC op = 1 := by rcases ho with rfl | rfl <;> exact ⟨rfl, rfl⟩
      exact ⟨by rw [t.1]; omega, by rw [t.1, t.2]; omega, .inl ⟨hends, h1⟩⟩
    · have t : takesC op = 2 ∧ leavesC op = 1 := by
        rcases op34 hop with rfl | rfl | rfl | rfl | rfl | rfl | rfl | rfl | rfl | rfl | rfl | rfl | rfl | rfl | rfl | rfl | rfl | rfl | rfl | rfl | rfl | rfl | rfl | rfl | rfl | rfl | rfl | rfl | rfl | rfl | rfl | rfl | rfl | rfl
        all_goals first
          | exact ⟨rfl, rfl⟩
          | omega
      exact ⟨by rw [t.1]; omega, by rw [t.1, t.2]; omega, .inl ⟨hends, h1⟩⟩
  by_cases h0 : op = 0
  · subst h0
    have e : s.exec 0 k = some { s with fin := 1, pc := s.pc - 1 } := rfl
    rw [e] at h; cases h; exact .inl (by show (1 : Int) ≠ 0; decide)
  by_cases h30 : op = 30
  · subst h30
    have e : s.exec 30 k = if 1 ≤ k ∧ k ≤ 15 then some { s with fin := 2, trap := k, pc := s.pc - 1 } else none := rfl
    rw [e] at h
    split at h
    · cases h; exact .inl (by show (2 : Int) ≠ 0; decide)
    · cases h
  by_cases h25 : op = 25
  · subst h25
    have e : s.exec 25 k = some { s with pc := k } := rfl
    rw [e] at h; cases h
    exact .inr ⟨by show (0 : Int) ≤ _; omega, by show (s.st.length : Int) = s.st.length - 0 + 0; omega, .inr ⟨rfl, rfl⟩⟩
  by_cases h26 : op = 26
  · subst h26
    have e : s.exec 26 k = (match s.st with | [] => none | x :: t => some { s with st := t, pc := if x = 0 then k else s.pc }) := rfl
    rw [e] at h
    rcases hst : s.st with _ | ⟨x, t⟩
    · rw [hst] at h; cases h
    rw [hst] at h
    cases h
    refine .inr ⟨by rw [hst]; show (1 : Int) ≤ ((x :: t).length : Int); simp; omega, by rw [hst]; show (t.length : Int) = ((x :: t).length : Int) - 1 + 0; simp, ?_⟩
    by_cases hx : x = 0
    · exact .inr ⟨rfl, by show (if x = 0 then k else s.pc) = k; rw [if_pos hx]⟩
    · exact .inl ⟨rfl, by show (if x = 0 then k else s.pc) = s.pc; rw [if_neg hx]⟩
  by_cases h28 : op = 28
  · subst h28
    have e : s.exec 28 k = s.lead 28 k := rfl
    rw [e, lead28_eq] at h
    split at h
    · cases h; exact .inr ⟨by show (0 : Int) ≤ _; omega, by show (s.st.length : Int) = s.st.length - 0 + 0; omega, .inl ⟨rfl, rfl⟩⟩
    · cases h
  rcases (by omega : op = 1 ∨ op = 2 ∨ op = 3 ∨ op = 4 ∨ op = 5 ∨ op = 6 ∨ op = 7 ∨ op = 8 ∨ op = 31 ∨ op = 32 ∨ op = 33) with rfl | rfl | rfl | rfl | rfl | rfl | rfl | rfl | rfl | rfl | rfl
  · exact len_lay rfl rfl rfl (show s.lay k = some s' from h)
  · have e : s.exec 2 k = (match s.st with | [] => none | x :: _ => s.lay x) := rfl
    rw [e] at h
    rcases hst : s.st with _ | ⟨x, t⟩
    · rw [hst] at h; cases h
    rw [hst] at h
    obtain ⟨a, b⟩ := lay_len h
    rw [hst] at b
    exact .inr ⟨by rw [hst]; show (1 : Int) ≤ ((x :: t).length : Int); simp; omega, by rw [hst]; show (s'.st.length : Int) = ((x :: t).length : Int) - 1 + 2; omega, .inl ⟨rfl, a⟩⟩
  · have e : s.exec 3 k = (match s.st with | [] => none | _ :: t => some { s with st := t }) := rfl
    rw [e] at h
    rcases hst : s.st with _ | ⟨x, t⟩
    · rw [hst] at h; cases h
    rw [hst] at h
    cases h
    exact .inr ⟨by rw [hst]; show (1 : Int) ≤ ((x :: t).length : Int); simp; omega, by rw [hst]; show (t.length : Int) = ((x :: t).length : Int) - 1 + 0; simp, .inl ⟨rfl, rfl⟩⟩
  · have e : s.exec 4 k = (match s.st with | b :: a :: t => some { s with st := a :: b :: t } | _ => none) := rfl
    rw [e] at h
    rcases hst : s.st with _ | ⟨x, _ | ⟨y, t⟩⟩
    · rw [hst] at h; cases h
    · rw [hst] at h; cases h
    rw [hst] at h
    cases h
    exact .inr ⟨by rw [hst]; show (2 : Int) ≤ ((x :: y :: t).length : Int); simp; omega, by rw [hst]; show ((y :: x :: t).length : Int) = ((x :: y :: t).length : Int) - 2 + 2; simp, .inl ⟨rfl, rfl⟩⟩
  · exact len_lay rfl rfl rfl (show s.lay (wrap32 (s.fp + k)) = some s' from h)
  · have e : s.exec 6 k = (match s.st with | [] => none | p :: t => if okAt s p 1 then some { s with st := s.mem.getD p.toNat 0 :: t } else none) := rfl
    rw [e] at h
    rcases hst : s.st with _ | ⟨x, t⟩
    · rw [hst] at h; cases h
    rw [hst] at h
    simp only at h
    split at h
    · cases h
      exact .inr ⟨by rw [hst]; show (1 : Int) ≤ ((x :: t).length : Int); simp; omega, by rw [hst]; show ((s.mem.getD x.toNat 0 :: t).length : Int) = ((x :: t).length : Int) - 1 + 1; simp, .inl ⟨rfl, rfl⟩⟩
    · cases h
  · have e : s.exec 7 k = (match s.st with | x :: p :: t => (if okAt s p 1 then some { s with st := t, mem := s.mem.set p.toNat x } else none) | _ => none) := rfl
    rw [e] at h
    rcases hst : s.st with _ | ⟨x, _ | ⟨y, t⟩⟩
    · rw [hst] at h; cases h
    · rw [hst] at h; cases h
    rw [hst] at h
    simp only at h
    split at h
    · cases h
      exact .inr ⟨by rw [hst]; show (2 : Int) ≤ ((x :: y :: t).length : Int); simp; omega, by rw [hst]; show (t.length : Int) = ((x :: y :: t).length : Int) - 2 + 0; simp; omega, .inl ⟨rfl, rfl⟩⟩
    · cases h
  · have e : s.exec 8 k = (match s.st with | q :: p :: t => (if okAt s q k ∧ okAt s p k then some { s with st := t, mem := s.mem.take p.toNat ++ (s.mem.drop q.toNat).take k.toNat ++ s.mem.drop (p.toNat + k.toNat) } else none) | _ => none) := rfl
    rw [e] at h
    rcases hst : s.st with _ | ⟨x, _ | ⟨y, t⟩⟩
    · rw [hst] at h; cases h
    · rw [hst] at h; cases h
    rw [hst] at h
    simp only at h
    split at h
    · cases h
      exact .inr ⟨by rw [hst]; show (2 : Int) ≤ ((x :: y :: t).length : Int); simp; omega, by rw [hst]; show (t.length : Int) = ((x :: y :: t).length : Int) - 2 + 0; simp; omega, .inl ⟨rfl, rfl⟩⟩
    · cases h
  · have e : s.exec 31 k = ({ s with inp := s.inp.tail }).lay (s.inp.headD 0) := rfl
    rw [e] at h
    obtain ⟨a, b⟩ := lay_len h
    exact .inr ⟨by show (0 : Int) ≤ (s.st.length : Int); omega, by show (s'.st.length : Int) = (s.st.length : Int) - 0 + 1; have b' : s'.st.length = s.st.length + 1 := b; omega, .inl ⟨rfl, a⟩⟩
  · exact len_lay rfl rfl rfl (show s.lay (tell s.inp.isEmpty) = some s' from h)
  · have e : s.exec 33 k = (match s.st with | [] => none | x :: t => some { s with st := t, out := s.out ++ [x % 256] }) := rfl
    rw [e] at h
    rcases hst : s.st with _ | ⟨x, t⟩
    · rw [hst] at h; cases h
    rw [hst] at h
    cases h
    exact .inr ⟨by rw [hst]; show (1 : Int) ≤ ((x :: t).length : Int); simp; omega, by rw [hst]; show (t.length : Int) = ((x :: t).length : Int) - 1 + 0; simp, .inl ⟨rfl, rfl⟩⟩

/-- As long as it runs it stands at a place with so many operands. -/
def At (V N : Nat → Int) (n : Nat) (s : SSt) : Prop := s.code = codeOf V N n ∧ (s.fin = 0 → ∃ P : Nat, s.pc = (P : Int) ∧ Hi V N P (s.st.length : Int))
theorem at_new (V N : Nat → Int) (n M b : Nat) (inp : List Int) : At V N n (SSt.new (codeOf V N n) M b inp) := ⟨rfl, fun _ => ⟨0, rfl, Hi.start⟩⟩
theorem at_step {V N : Nat → Int} {n : Nat} {s : SSt} (hO : Okay V N n) (hno : ∀ i, i < n → V i ≠ 27 ∧ V i ≠ 29) (ht : 0 ≤ s.top) (h : At V N n s) : At V N n s.step := by
  have hk := step_keeps s ht
  refine ⟨hk.1.trans h.1, fun hf => ?_⟩
  have hf0 : s.fin = 0 := by
    rcases Decidable.em (s.fin = 0) with h1 | h1
    · exact h1
    · rw [step_stop h1] at hf; exact absurd hf h1
  obtain ⟨P, hP, hHi⟩ := h.2 hf0
  have hPn := hHi.lt hO
  have hlen : s.code.length = n := by rw [h.1, codeOf_length]
  have hat : s.at' = (V P, N P) := by
    unfold SSt.at'
    rw [hP, h.1, Int.toNat_natCast]
    exact codeOf_getD V N n P hPn
  have hst : s.step = (s.try1).getD s.fault := by rw [step_run hf0]; rfl
  have htry : s.try1 = if goodC (V P, N P) then s.next.exec (V P) (N P) else none := by
    unfold SSt.try1; rw [if_pos ⟨by omega, by omega⟩, hat]
  cases hg : goodC (V P, N P) with
  | false =>
    rw [htry, hg] at hst
    rw [hst] at hf
    exact absurd hf (by show (2 : Int) ≠ 0; decide)
  | true =>
    rw [htry, hg] at hst
    cases he : s.next.exec (V P) (N P) with
    | none =>
      rw [he] at hst
      rw [hst] at hf
      exact absurd hf (by show (2 : Int) ≠ 0; decide)
    | some s' =>
      rw [he] at hst
      have hst' : s.step = s' := hst
      rw [hst'] at hf ⊢
      rcases exec_len (okay_op hO hPn) (hno P hPn).1 (hno P hPn).2 he with h1 | ⟨h1, h2, h3⟩
      · exact absurd hf h1
      · have h1' : takesC (V P) ≤ (s.st.length : Int) := h1
        have h2' : (s'.st.length : Int) = thenC V P (s.st.length : Int) := h2
        rw [h2']
        rcases h3 with ⟨h4, h5⟩ | ⟨h4, h5⟩
        · have h5' : s'.pc = s.pc + 1 := h5
          exact ⟨P + 1, by rw [h5', hP]; omega, hHi.next h1' h4⟩
        · obtain ⟨j0, j1⟩ := okay_jump hO hPn h4
          exact ⟨(N P).toNat, by rw [h5]; omega, hHi.jump h1' h4⟩
theorem at_stepN {V N : Nat → Int} {n : Nat} {s : SSt} (hO : Okay V N n) (hno : ∀ i, i < n → V i ≠ 27 ∧ V i ≠ 29) (ht : Top0 s) (h : At V N n s) : ∀ j, At V N n (s.stepN j)
  | 0 => h
  | j + 1 => by rw [SSt.stepN_succ]; exact at_step hO hno (stepN_top0 ht j).2.1 (at_stepN hO hno ht h j)
theorem hOf_hi {V N : Nat → Int} (hF : Fine V N) {i : Nat} {h : Int} (hh : Hi V N i h) : hOf V N i = h := by
  have hex : ∃ x, Hi V N i x := ⟨h, hh⟩
  unfold hOf
  rw [dif_pos hex]
  exact (hF i h hh).2.2 _ hex.choose_spec
end Go.Proofs.Ytgkdphnhfjjepaa

/- Contracts of the walk's step, of verify.Heights. -/
namespace Go.Proofs.Ytgkdphnhfjjepaa
open Go.RowKit Go.Waf
set_option maxRecDepth 100000
set_option linter.unusedVariables false

def StepPost (V N : Nat → Int) (w0 : World) (q mb : Nat) (lv : Value) (n : Nat) (H : Nat → Int) (L : List Nat) (e : Ending) (w' : World) : Prop :=
  Below w0.heap.size w0 w' ∧ ((e = .returned (.bool false) ∧ ¬ Fine V N) ∨ ∃ H' L' tv', e = .returned (.bool true) ∧ WalkAt w0 w' q mb lv tv' n H' L' ∧ Known V N H' ∧ But V N H' L' (fun _ => False) ∧ 2 * (n - cnt H' n) + L'.length ≤ 2 * (n - cnt H n) + L.length ∧ (∀ j ∈ L', 0 ≤ H' j) ∧ ∀ j, 0 ≤ H j → H' j = H j)

set_option maxHeartbeats 3200000 in
theorem step_any (V N : Nat → Int) (w0 w : World) (q mb : Nat) (a : Option Addr) (n cap : Nat) (tv : Value) (hn : n ≤ 50000) (hp : PairsAt w0 .i64 .i32 a n cap V N) (hO : Okay V N n) (H : Nat → Int) (L : List Nat) (hL : 2 * (n - cnt H n) + L.length ≤ 200000)
    (hW : WalkAt w0 w q mb (.slice a n cap) tv n H L) (hK : Known V N H) (i : Nat) (hi : i < n) (h0 : 0 ≤ H i) (hB : But V N H L (fun j => j = i)) (hS : ∀ j ∈ L, 0 ≤ H j) :
    Calls Try.prog 47 #[.pointer (some ⟨q, 0, none⟩), .int .i64 i] w (StepPost V N w0 q mb (.slice a n cap) n H L) := by
  have hpw := hp.below hW.old (Nat.le_refl _)
  obtain ⟨ab, ao, rfl, habl, hcs⟩ := hpw.cells (by omega)
  obtain ⟨kv, kn⟩ := hcs i hi
  obtain ⟨hn0, hn1⟩ := rng_i32 (hpw.wf i hi).2
  have hop := okay_op hO hi
  have hle := hpw.le
  have hcap := hpw.cap63
  have hlow := hK.low i
  have hju := okay_jump hO hi
  have hne := okay_next hO hi
  have hqlt : q < w.heap.size := (Array.getElem?_eq_some_iff.1 hW.blk).1
  obtain ⟨v, hv⟩ : ∃ v, v = V i := ⟨_, rfl⟩
  obtain ⟨c, hc⟩ : ∃ c, c = N i := ⟨_, rfl⟩
  obtain ⟨x, hx⟩ : ∃ x, x = H i := ⟨_, rfl⟩
  obtain ⟨p, hpt⟩ : ∃ p, p = takesC v := ⟨_, rfl⟩
  obtain ⟨r, hrl⟩ : ∃ r, r = leavesC v := ⟨_, rfl⟩
  have hHi := hK.sound i h0
  have hth : thenC V i (H i) = x - p + r := by rw [hpt, hrl, hx, hv]; rfl
  have hpb := takes_le v
  have hrb := leaves_le v
  have hHj : p ≤ x → jumpsC v = true → Hi V N (N i).toNat (x - p + r) := fun h1 h2 => by rw [← hth]; exact .jump hHi (by rw [← hv, ← hpt, ← hx]; exact h1) (by rw [← hv]; exact h2)
  have hHn : p ≤ x → endsC v = false → Hi V N (i + 1) (x - p + r) := fun h1 h2 => by rw [← hth]; exact .next hHi (by rw [← hv, ← hpt, ← hx]; exact h1) (by rw [← hv]; exact h2)
  have hDone : ∀ H' : Nat → Int, H' i = x → p ≤ x → (jumpsC v = true → H' (N i).toNat = x - p + r) → (endsC v = false → H' (i + 1) = x - p + r) → Done V N H' i := fun H' h1 h2 h3 h4 => by
    have e : thenC V i (H' i) = x - p + r := by rw [h1, ← hth, hx]
    refine ⟨by rw [h1, ← hv, ← hpt]; exact h2, fun h => ?_, fun h => ?_⟩
    · rw [e]; exact h3 (by rw [hv]; exact h)
    · rw [e]; exact h4 (by rw [hv]; exact h)
  have hno : x < p → ¬ Fine V N := fun h => not_fine_takes hK h0 (by rw [← hx, ← hv, ← hpt]; exact h)
  have hMV := fun W => moves_any v (by rw [hv]; exact hop) W
  have hEN := fun W => ends_any v W
  rw [← hpt, ← hrl] at hMV
  rw [← hpt] at hpb
  rw [← hrl] at hrb
  rw [← hv] at kv hju hne
  rw [← hc] at kn hn0 hn1
  rw [← hx] at hlow h0
  obtain ⟨D, hown, hD⟩ := hW.map
  have hkey : keyOf Try.prog 3 (.int .i64 (i : Int)) = some (keyL i) := Go.Maps.keyOf_int_mk Try.underlying3 (WalkArith.wf_i64 (by omega))
  have hat := hD.at_ i (by rw [← hx]; exact h0)
  rw [← hx] at hat
  obtain ⟨b, hb⟩ : ∃ b, endsC v = b := ⟨_, rfl⟩
  rw [hb] at hEN hDone hHn hne
  have c0 : w.cell? ⟨q, 0, none⟩ = some (.slice (some ⟨ab, ao, none⟩) n cap) := by rw [cell_of_row w q 0 _ _ _ hW.blk]; rfl
  have HW := Lib.hid hW
  have HK := Lib.hid hK
  have HO := Lib.hid hown
  have HD := Lib.hid hD
  have HKEY := Lib.hid hkey
  have HAT := Lib.hid hat
  have HMV := Lib.hid hMV
  have HEN := Lib.hid hEN
  have HJU := Lib.hid hju
  have HNE := Lib.hid hne
  have HHJ := Lib.hid hHj
  have HHN := Lib.hid hHn
  have HDN := Lib.hid hDone
  have HNO := Lib.hid hno
  have HB := Lib.hid hB
  have HS := Lib.hid hS
  have HX := Lib.hid hx
  have HE := Lib.hid hb
  have HC := Lib.hid hc
  have HL := Lib.hid hL
  have HV := Lib.hid hv
  clear hpw hcs hp hO hW hK hown hD hkey hat hMV hEN hju hne hHj hHn hDone hno hB hS hx hb hc hL hv hop hHi hth hpt hrl
  go_enter Try.func47, Try.ntmps47
  go_wp2_with fail
  refine (HMV.out _).mono ?_; rintro e w1 ⟨rfl, hw1⟩
  have hb1 : Below w.heap.size w w1 := by rw [← hw1]; exact (Below.refl _ _).alloc (Nat.le_refl _) _
  have d0 : w1.cell? ⟨w.heap.size, 0, none⟩ = some (.int .i64 v) := by rw [← hw1, World.cell?_alloc_new]; rfl
  have d1 : w1.cell? ⟨w.heap.size, 1, none⟩ = some (.int .i32 c) := by rw [← hw1, World.cell?_alloc_new]; rfl
  have hc1 : w1.cell? ⟨q, 1, none⟩ = some (.map (some mb)) := by rw [cell_of_row w1 q 1 _ _ _ (HW.out.keep hb1).blk]; rfl
  have hsz1 : w.heap.size < w1.heap.size := by rw [← hw1]; simp
  have hO1 : w1.ownsMap Try.prog 3 (plainElem (H := Unit) Try.prog 3) mb (cnt H n) D := by rw [← hw1]; exact HO.out.alloc _
  have HW1 := Lib.hid (HW.out.keep hb1)
  have HO1 := Lib.hid hO1
  have HSZ1 := Lib.hid hsz1
  have HTV := Lib.hid (show ∀ k, tv.ownBlock = some k → k = w.heap.size → False from fun k hk e => by have := (HW.out.row.lt k hk).2; omega)
  have HMB := Lib.hid HO.out.lt
  clear hw1 hb1 hO1 HO HW kv kn c0 hsz1
  by_cases hxp : x < p
  · have hnf := HNO.out hxp
    go_wp2_with (at_lookup; refine wpList_lookup_own_int _ rfl _ _ 78 rfl 3 3 .i64 lawI Try.underlying78 Try.underlying3 (zeroI _) mb _ _ rfl HO1.out _ _ rfl HKEY.out ?_; intro c2 hc2 _; rw [HAT.out] at hc2; simp only [DataW.lit.injEq, Lit.int.injEq, true_and] at hc2; subst hc2)
    go_ret
    exact ⟨HW1.out.old, .inl ⟨rfl, hnf⟩⟩
  · have hpx : p ≤ x := by omega
    have hlt2 : ∀ j, 0 ≤ H j → 0 ≤ H j := fun _ h => h
    clear hlt2
    by_cases hj : jumpsC v = true
    · obtain ⟨hj0, hj1⟩ := HJU.out hj
      obtain ⟨t, ht⟩ : ∃ t : Nat, c = t := ⟨c.toNat, by have := HC.out; omega⟩
      have htN : (N i).toNat = t := by rw [← HC.out, ht]; simp
      have hHt := HHJ.out hpx hj
      rw [htN] at hHt
      have htn : t < n := by rw [← HC.out, ht] at hj1; omega
      have HHT := Lib.hid hHt
      have HTN := Lib.hid htN
      subst ht
      have hvv : v = 25 ∨ v = 26 := by simpa [jumpsC] using hj
      have HJ := Lib.hid hj
      clear hHt htN hj hj0 hj1
      rcases hvv with hvv | hvv
      · have e25 : (v == 25) = true := by simp [hvv]
        obtain rfl : b = true := by rw [← HE.out, hvv]; rfl
        clear hvv
        go_wp2_with (at_lookup; refine wpList_lookup_own_int _ rfl _ _ 78 rfl 3 3 .i64 lawI Try.underlying78 Try.underlying3 (zeroI _) mb _ _ rfl HO1.out _ _ rfl HKEY.out ?_; intro c2 hc2 _; rw [HAT.out] at hc2; simp only [DataW.lit.injEq, Lit.int.injEq, true_and] at hc2; subst hc2)
        refine (reach_any V N w0 w1 q mb _ tv n (by omega) H L (by have := HL.out; omega) HW1.out HK.out t (x - p + r) htn HHT.out (by omega)).mono ?_
        rintro e w2 ⟨hbw, hfr, h | ⟨H2, L2, tv2, rfl, hW2, hK2, hB2, hE2, hT2, hM2, hS2⟩⟩
        · obtain ⟨rfl, hnf, _⟩ := h
          go_wp2_with fail
          go_ret
          exact ⟨hbw, .inl ⟨rfl, hnf⟩⟩
        · have e0 : w2.cell? ⟨w.heap.size, 0, none⟩ = some (.int .i64 v) := by
            rw [hfr.cell (p := ⟨w.heap.size, 0, none⟩) HSZ1.out (by
              have h1 := HW1.out.row.lt
              have h2 := HMB.out
              have h3 := HTV.out
              rintro (h | h | h)
              · simp at h; omega
              · simp at h; omega
              · exact h3 _ h rfl)]
            exact d0
          have hs2 : ∀ j ∈ L2, 0 ≤ H2 j := fun j hj => by
            rcases hS2 j hj with h | h
            · have h5 := HS.out j h; rw [hE2 j h5]; exact h5
            · rw [h, hT2]; omega
          have hx2 : H2 i = x := by rw [hE2 i (by rw [← HX.out]; omega), HX.out]
          have HS2 := Lib.hid hs2
          have HE2 := Lib.hid hE2
          have HX2 := Lib.hid hx2
          have HT2 := Lib.hid hT2
          have HW2 := Lib.hid hW2
          have HK2 := Lib.hid hK2
          have HB2 := Lib.hid (hB2 _ HB.out)
          have HM2 := Lib.hid hM2
          have HBW := Lib.hid hbw
          clear hbw hfr hE2 hS2 hs2 hx2 hT2 hW2 hK2 hB2 hM2 d0 d1 hc1
          go_wp2_with fail
          refine (HEN.out _).mono ?_; rintro e w3 ⟨rfl, rfl⟩
          go_wp2_with fail
          go_ret
          exact ⟨HBW.out, .inr ⟨H2, L2, tv2, rfl, HW2.out, HK2.out, HB2.out.shut (HDN.out H2 HX2.out hpx (fun _ => by rw [HTN.out]; exact HT2.out) (fun h => by cases h)), HM2.out, HS2.out, HE2.out⟩⟩
      · have e25 : (v == 25) = false := by simp [hvv]
        have e26 : (v == 26) = true := by simp [hvv]
        obtain rfl : b = false := by rw [← HE.out, hvv]; rfl
        clear hvv
        go_wp2_with (at_lookup; refine wpList_lookup_own_int _ rfl _ _ 78 rfl 3 3 .i64 lawI Try.underlying78 Try.underlying3 (zeroI _) mb _ _ rfl HO1.out _ _ rfl HKEY.out ?_; intro c2 hc2 _; rw [HAT.out] at hc2; simp only [DataW.lit.injEq, Lit.int.injEq, true_and] at hc2; subst hc2)
        refine (reach_any V N w0 w1 q mb _ tv n (by omega) H L (by have := HL.out; omega) HW1.out HK.out t (x - p + r) htn HHT.out (by omega)).mono ?_
        rintro e w2 ⟨hbw, hfr, h | ⟨H2, L2, tv2, rfl, hW2, hK2, hB2, hE2, hT2, hM2, hS2⟩⟩
        · obtain ⟨rfl, hnf, _⟩ := h
          go_wp2_with fail
          go_ret
          exact ⟨hbw, .inl ⟨rfl, hnf⟩⟩
        · have e0 : w2.cell? ⟨w.heap.size, 0, none⟩ = some (.int .i64 v) := by
            rw [hfr.cell (p := ⟨w.heap.size, 0, none⟩) HSZ1.out (by
              have h1 := HW1.out.row.lt
              have h2 := HMB.out
              have h3 := HTV.out
              rintro (h | h | h)
              · simp at h; omega
              · simp at h; omega
              · exact h3 _ h rfl)]
            exact d0
          have hs2 : ∀ j ∈ L2, 0 ≤ H2 j := fun j hj => by
            rcases hS2 j hj with h | h
            · have h5 := HS.out j h; rw [hE2 j h5]; exact h5
            · rw [h, hT2]; omega
          have hx2 : H2 i = x := by rw [hE2 i (by rw [← HX.out]; omega), HX.out]
          have HS2 := Lib.hid hs2
          have HE2 := Lib.hid hE2
          have HX2 := Lib.hid hx2
          have HT2 := Lib.hid hT2
          have HW2 := Lib.hid hW2
          have HK2 := Lib.hid hK2
          have HB2 := Lib.hid (hB2 _ HB.out)
          have HM2 := Lib.hid hM2
          have HBW := Lib.hid hbw
          clear hbw hfr hE2 hS2 hs2 hx2 hT2 hW2 hK2 hB2 hM2 d0 d1 hc1
          have hHn := HHN.out hpx (by first | trivial | rfl)
          have hlt := HNE.out (by first | trivial | rfl)
          have HHN2 := Lib.hid hHn
          clear hHn
          go_wp2_with fail
          refine (HEN.out _).mono ?_; rintro e w3 ⟨rfl, rfl⟩
          go_wp2_with fail
          refine (reach_any V N w0 w2 q mb _ tv2 n (by omega) H2 L2 (by have := HL.out; have := HM2.out; omega) HW2.out HK2.out (i + 1) (x - p + r) hlt HHN2.out (by omega)).mono ?_
          rintro e w4 ⟨hbw, hfr, h | ⟨H4, L4, tv4, rfl, hW4, hK4, hB4, hE4, hT4, hM4, hS4⟩⟩
          · obtain ⟨rfl, hnf, _⟩ := h
            go_wp2_with fail
            go_ret
            exact ⟨hbw, .inl ⟨rfl, hnf⟩⟩
          · have hs4 : ∀ j ∈ L4, 0 ≤ H4 j := fun j hj => by
              rcases hS4 j hj with h | h
              · have h5 := HS2.out j h; rw [hE4 j h5]; exact h5
              · rw [h, hT4]; omega
            have hx4 : H4 i = x := by rw [hE4 i (by rw [HX2.out]; omega), HX2.out]
            have ht4 : H4 t = x - p + r := by rw [hE4 t (by rw [HT2.out]; omega), HT2.out]
            have HR := Lib.hid (show StepPost V N w0 q mb _ n H L (.returned (.bool true)) w4 from ⟨hbw, .inr ⟨H4, L4, tv4, rfl, hW4, hK4, (hB4 _ HB2.out).shut (HDN.out H4 hx4 hpx (fun _ => by rw [HTN.out]; exact ht4) (fun _ => hT4)), Nat.le_trans hM4 HM2.out, hs4, fun j hj => by rw [hE4 j (by rw [HE2.out j hj]; exact hj), HE2.out j hj]⟩⟩)
            clear hbw hfr hW4 hK4 hB4 hE4 hT4 hM4 hS4 hs4 hx4 ht4
            go_wp2_with fail
            go_ret
            exact HR.out
    · have hjf : jumpsC v = false := by simpa using hj
      have e25 : (v == 25) = false := by simp [jumpsC] at hjf; simp [hjf.1]
      have e26 : (v == 26) = false := by simp [jumpsC] at hjf; simp [hjf.2]
      have HJF := Lib.hid hjf
      clear hjf hj
      cases b with
      | true =>
        go_wp2_with (at_lookup; refine wpList_lookup_own_int _ rfl _ _ 78 rfl 3 3 .i64 lawI Try.underlying78 Try.underlying3 (zeroI _) mb _ _ rfl HO1.out _ _ rfl HKEY.out ?_; intro c2 hc2 _; rw [HAT.out] at hc2; simp only [DataW.lit.injEq, Lit.int.injEq, true_and] at hc2; subst hc2)
        refine (HEN.out _).mono ?_; rintro e w3 ⟨rfl, rfl⟩
        go_wp2_with fail
        go_ret
        exact ⟨HW1.out.old, .inr ⟨H, L, tv, rfl, HW1.out, HK.out, HB.out.shut (HDN.out H HX.out.symm hpx (fun h => by rw [HJF.out] at h; cases h) (fun h => by cases h)), Nat.le_refl _, HS.out, fun _ _ => rfl⟩⟩
      | false =>
        have hHn := HHN.out hpx (by first | rfl | trivial)
        have hlt := HNE.out (by first | rfl | trivial)
        have HHN2 := Lib.hid hHn
        clear hHn
        go_wp2_with (at_lookup; refine wpList_lookup_own_int _ rfl _ _ 78 rfl 3 3 .i64 lawI Try.underlying78 Try.underlying3 (zeroI _) mb _ _ rfl HO1.out _ _ rfl HKEY.out ?_; intro c2 hc2 _; rw [HAT.out] at hc2; simp only [DataW.lit.injEq, Lit.int.injEq, true_and] at hc2; subst hc2)
        refine (HEN.out _).mono ?_; rintro e w3 ⟨rfl, rfl⟩
        go_wp2_with fail
        refine (reach_any V N w0 w1 q mb _ tv n (by omega) H L (by have := HL.out; omega) HW1.out HK.out (i + 1) (x - p + r) hlt HHN2.out (by omega)).mono ?_
        rintro e w4 ⟨hbw, hfr, h | ⟨H4, L4, tv4, rfl, hW4, hK4, hB4, hE4, hT4, hM4, hS4⟩⟩
        · obtain ⟨rfl, hnf, _⟩ := h
          go_wp2_with fail
          go_ret
          exact ⟨hbw, .inl ⟨rfl, hnf⟩⟩
        · have hs4 : ∀ j ∈ L4, 0 ≤ H4 j := fun j hj => by
            rcases hS4 j hj with h | h
            · have h5 := HS.out j h; rw [hE4 j h5]; exact h5
            · rw [h, hT4]; omega
          have hx4 : H4 i = x := by rw [hE4 i (by rw [← HX.out]; omega), HX.out]
          have HR := Lib.hid (show StepPost V N w0 q mb _ n H L (.returned (.bool true)) w4 from ⟨hbw, .inr ⟨H4, L4, tv4, rfl, hW4, hK4, (hB4 _ HB.out).shut (HDN.out H4 hx4 hpx (fun h => by rw [HJF.out] at h; cases h) (fun _ => hT4)), hM4, hs4, hE4⟩⟩)
          clear hbw hfr hW4 hK4 hB4 hE4 hT4 hM4 hS4 hs4 hx4
          go_wp2_with fail
          go_ret
          exact HR.out
end Go.Proofs.Ytgkdphnhfjjepaa

/- The contract of verify.Heights. -/
namespace Go.Proofs.Ytgkdphnhfjjepaa
open Go.RowKit Go.Waf
set_option maxRecDepth 100000
set_option linter.unusedVariables false

def HRes (V N : Nat → Int) (n : Nat) (w : World) (e : Ending) (w' : World) : Prop :=
  Below w.heap.size w w' ∧ (((Okay V N n ∧ Fine V N) ∧ ∃ v, e = .returned (.tuple #[v, .bool true]) ∧ Rd w' 1 v n (ints (hList V N n))) ∨ (¬ (Okay V N n ∧ Fine V N) ∧ e = .returned (.tuple #[.slice none 0 0, .bool false])))

theorem check_good (w : World) (a : Option Addr) (n cap : Nat) (V N : Nat → Int) (hp : PairsAt w .i64 .i32 a n cap V N) (hO : Okay V N n) :
    Calls Try.prog 45 #[.slice a n cap] w fun e w' => e = .returned (.tuple #[.int .i64 0, .int .i64 0]) ∧ Below w.heap.size w w' :=
  (check_any w a n cap V N hp).mono fun e w' ⟨he, hb⟩ => ⟨by rw [he, if_neg (by rw [hO.2]; omega), if_neg (by have := hO.1; omega)], hb⟩
theorem check_ill (w : World) (a : Option Addr) (n cap : Nat) (V N : Nat → Int) (hp : PairsAt w .i64 .i32 a n cap V N) (hO : ¬ Okay V N n) :
    Calls Try.prog 45 #[.slice a n cap] w fun e w' => (∃ x : Int, e = .returned (.tuple #[.int .i64 x, .int .i64 23])) ∧ Below w.heap.size w w' :=
  (check_any w a n cap V N hp).mono fun e w' ⟨he, hb⟩ => ⟨by
    by_cases h : firstBad V N n < n
    · exact ⟨_, by rw [he, if_pos h]⟩
    · have := firstBad_le V N n
      have h0 : n = 0 := by
        rcases Nat.eq_zero_or_pos n with h0 | h0
        · exact h0
        · exact absurd ⟨h0, by omega⟩ hO
      exact ⟨_, by rw [he, if_neg h, if_pos h0]⟩, hb⟩
theorem lits_length (L : List Nat) : (lits L).length = L.length := by simp [lits]
theorem list_snoc {α : Type} (L : List α) (h : 0 < L.length) : ∃ L' x, L = L' ++ [x] := by
  rcases List.eq_nil_or_concat L with rfl | ⟨L', x, rfl⟩
  · simp at h
  · exact ⟨L', x, by simp⟩

theorem walk_start (w w1 : World) (a : Option Addr) (n cap : Nat) (hb : Below w.heap.size w w1) (T : TypeId) (hT : T = 80) :
    WalkAt w ((w1.alloc (.map #[] 0)).alloc (.cells #[.slice a n cap, .map (some w1.heap.size), .slice none 0 0] T)) (w1.heap.size + 1) w1.heap.size (.slice a n cap) (.slice none 0 0) n (fun _ => -1) [] := by
  subst hT
  have hs := hb.size
  have c0 : cnt (fun _ => -1) n = 0 := by simp [cnt]
  refine ⟨?_, ⟨.map [], ?_, mapIs_start⟩, World.ownsRow_nil _ _ _ _, by omega, hs, by omega, by simp [Value.ownBlock], by simp [Value.ownBlock], (hb.alloc hs _).alloc (by simp; omega) _⟩
  · exact heap_alloc2_new w1 _ _
  · rw [c0]
    exact (World.ownsMap_made _ _ _ _).alloc _

theorem walk_pop (w0 w : World) (q mb : Nat) (lv : Value) (g cap n : Nat) (H : Nat → Int) (L : List Nat) (i m : Nat) (hm : m = L.length)
    (hW : WalkAt w0 w q mb lv (.slice (some ⟨g, 0, none⟩) (m + 1) cap) n H (L ++ [i])) : WalkAt w0 (w.setCell ⟨q, 2, none⟩ (.slice (some ⟨g, 0, none⟩) m cap)) q mb lv (.slice (some ⟨g, 0, none⟩) m cap) n H L := by
  subst hm
  obtain ⟨D, h1, h2⟩ := hW.map
  have hr := hW.row
  have e1 : lits (L ++ [i]) = lits L ++ [(i : Int)] := by simp [lits]
  rw [e1, ints_append, List.length_append] at hr
  have hr2 := ownsRow_pop (n := L.length) (by rw [ints_length, lits_length]; omega) hr
  refine ⟨by rw [heap_setCell_same w q 2 _ _ _ hW.blk]; rfl, ⟨D, h1.setCell (Ne.symm hW.ne) _, h2⟩, owns_set_other hr2 _ _ hW.tq, hW.bq, hW.bm, hW.ne, hW.tq, hW.tm, hW.old.setCell hW.bq _⟩
theorem WalkAt.drewN {w0 w : World} {q mb : Nat} {lv tv : Value} {n : Nat} {H : Nat → Int} {L : List Nat} (h : WalkAt w0 w q mb lv tv n H L) (m : Nat) : WalkAt w0 (w.drewN m) q mb lv tv n H L :=
  ⟨h.blk, h.map, h.row, h.bq, h.bm, h.ne, h.tq, h.tm, below_drewN h.old m⟩

set_option maxHeartbeats 6400000 in
theorem heights_any (w : World) (a : Option Addr) (n cap : Nat) (V N : Nat → Int) (hn : n ≤ 50000) (hp : PairsAt w .i64 .i32 a n cap V N) :
    Calls Try.prog 33 #[.slice a n cap] w (HRes V N n w) := by
  have hle := hp.le
  have hcap := hp.cap63
  have HP := Lib.hid hp
  by_cases hok : Okay V N n
  · have HCK := Lib.hid (check_good w a n cap V N hp hok)
    have hn0 := hok.1
    have HOK := Lib.hid hok
    have hmm := @run_makeMap Try.prog
    clear hok hp
    go_enter Try.func33, Try.ntmps33
    go_wp2_with fail
    refine HCK.out.mono ?_; rintro e w1 ⟨rfl, hb1⟩
    have HS := Lib.hid (reach_any V N w _ _ _ _ _ n (by omega) (fun _ => -1) [] (by simp) (walk_start w w1 a n cap hb1 _ rfl) (known_start V N) 0 0 hn0 .start (by omega))
    clear hb1
    go_wp2_with fail
    refine HS.out.mono ?_
    rintro e w2 ⟨hbw, hfr, h | ⟨H2, L2, tv2, rfl, hW2, hK2, hB2, hE2, hT2, hM2, hS2⟩⟩
    · obtain ⟨rfl, hnf, h⟩ := h
      simp at h
    · have hs2 : ∀ j ∈ L2, 0 ≤ H2 j := fun j hj => by
        rcases hS2 j hj with h | h
        · simp at h
        · rw [h, hT2]; omega
      have hm2 : 2 * (n - cnt H2 n) + L2.length ≤ 2 * n := by simpa [cnt] using hM2
      have HST := Lib.hid (show ∃ H L tv, WalkAt w w2 (w1.heap.size + 1) w1.heap.size (.slice a n cap) tv n H L ∧ Known V N H ∧ But V N H L (fun _ => False) ∧ H 0 = 0 ∧ (∀ j ∈ L, 0 ≤ H j) ∧ 2 * (n - cnt H n) + L.length ≤ 2 * n from ⟨H2, L2, tv2, hW2, hK2, hB2 _ (but_start V N), hT2, hs2, hm2⟩)
      clear hbw hfr hW2 hK2 hB2 hE2 hT2 hM2 hS2 hs2 hm2
      go_wp2_with fail
      go_loopg [7] (2 * n) (fun k _ wr => ∃ H L tv, WalkAt w wr (w1.heap.size + 1) w1.heap.size (.slice a n cap) tv n H L ∧ Known V N H ∧ But V N H L (fun _ => False) ∧ H 0 = 0 ∧ (∀ j ∈ L, 0 ≤ H j) ∧ 2 * (n - cnt H n) + L.length ≤ k ∧ k ≤ 2 * n)
      case atStart =>
        obtain ⟨H, L, tv, h1, h2, h3, h4, h5, h6⟩ := HST.out
        exact ⟨H, L, tv, h1, h2, h3, h4, h5, h6, Nat.le_refl _⟩
      case round =>
        obtain ⟨H, L, tv, hW, hK, hB, hF, hS, hM, hk2⟩ := hrel
        clear HST
        by_cases hl : 0 < L.length
        · obtain ⟨L', i, rfl⟩ := list_snoc L hl
          obtain ⟨m, hm⟩ : ∃ m, m = L'.length := ⟨_, rfl⟩
          have hlen : (L' ++ [i]).length = m + 1 := by rw [List.length_append, hm]; rfl
          have hrow := hW.row
          rw [hlen] at hrow hM
          obtain ⟨g, tc, rfl, hgb, hgs, htc1, htc2⟩ := owns_some hrow (by omega)
          have c2 : wr.cell? ⟨w1.heap.size + 1, 2, none⟩ = some (.slice (some ⟨g, 0, none⟩) (m + 1) tc) := by rw [cell_of_row wr _ 2 _ _ _ hW.blk]; rfl
          have f2 := frozen_of_row wr (w1.heap.size + 1) 2 _ _ hW.blk
          have ct : wr.cell? ⟨g, m, none⟩ = some (.int .i64 (i : Int)) := by
            rw [hrow.cellAt m (by omega), ints_get _ _ (by rw [lits_length, hlen]; omega)]
            simp [lits, hm]
          have h0i := hS i (by simp)
          have hin : i < n := (hK.sound i h0i).lt HOK.out
          have hw0 : IntKind.i64.wrap ((m : Int) + 1 - 1) = (m : Int) := by rw [IntWalk.i64_in _ (by omega)]; omega
          have hw1 : IntKind.i64.wrap (m : Int) = (m : Int) := by rw [IntWalk.i64_in _ (by omega)]
          have HW := Lib.hid hW
          have HK := Lib.hid hK
          have HB := Lib.hid hB
          have HF := Lib.hid hF
          have HSS := Lib.hid hS
          have HM := Lib.hid hM
          have HML := Lib.hid hm
          have HROW := Lib.hid hrow
          clear hW hK hB hF hS hM hm hlen hrow hl
          go_wp2_with fail
          go_quiet (fail)
          go_wp2_with fail
          go_region
          go_wp2_with fail
          refine (step_any V N w _ _ _ a n cap _ hn HP.out HOK.out H L' (by have := HM.out; have := HML.out; have := cnt_le H n; omega) (walk_pop w _ _ _ _ g tc n H L' i m HML.out (HW.out.drewN (nq + 1))) HK.out i hin h0i HB.out.pop (fun j hj => HSS.out j (by simp [hj]))).mono ?_
          rintro e w3 ⟨hbw, h | ⟨H3, L3, tv3, rfl, hW3, hK3, hB3, hM3, hS3, hE3⟩⟩
          · obtain ⟨rfl, hnf⟩ := h
            go_wp2_with fail
            go_ret2
            exact ⟨hbw, .inr ⟨fun h => hnf h.2, rfl⟩⟩
          · have hF3 : H3 0 = 0 := by rw [hE3 0 (by rw [HF.out]; omega), HF.out]
            have hM4 : 2 * (n - cnt H3 n) + L3.length < gk := by have := HM.out; have := HML.out; omega
            have HR := Lib.hid (show ∃ H L tv, WalkAt w w3 (w1.heap.size + 1) w1.heap.size (.slice a n cap) tv n H L ∧ Known V N H ∧ But V N H L (fun _ => False) ∧ H 0 = 0 ∧ (∀ j ∈ L, 0 ≤ H j) ∧ 2 * (n - cnt H n) + L.length ≤ 2 * (n - cnt H3 n) + L3.length ∧ 2 * (n - cnt H3 n) + L3.length ≤ 2 * n from ⟨H3, L3, tv3, hW3, hK3, hB3, hF3, hS3, Nat.le_refl _, by omega⟩)
            have HM4 := Lib.hid hM4
            clear hbw hW3 hK3 hB3 hM3 hS3 hE3 hF3 hM4
            go_wp2_with fail
            go_roundg (2 * (n - cnt H3 n) + L3.length)
            case rel => exact HR.out
            case measure => exact HM4.out
        · obtain rfl : L = [] := List.eq_nil_of_length_eq_zero (by omega)
          have hD := fun i hi => (hB i hi).resolve_left (by simp) |>.resolve_left (fun h => h)
          have hfine := fine_of_done hK hF hD
          have hHO := hOf_eq hK hF hD
          obtain ⟨D, hown, hMI⟩ := hW.map
          have hls : hList V N n = (List.range n).map H := by unfold hList; exact List.map_congr_left fun j _ => hHO j
          obtain ⟨ta, tc, rfl, tc1, tc2, tc3⟩ := owns_shape hW.row
          obtain ⟨wo, rfl⟩ : ∃ wo : World, wo = wr := ⟨_, rfl⟩
          have c1 : wo.cell? ⟨w1.heap.size + 1, 1, none⟩ = some (.map (some w1.heap.size)) := by rw [cell_of_row wo _ 1 _ _ _ hW.blk]; rfl
          have c2 : wo.cell? ⟨w1.heap.size + 1, 2, none⟩ = some (.slice ta 0 tc) := by rw [cell_of_row wo _ 2 _ _ _ hW.blk]; rfl
          have hqb : w1.heap.size + 1 < wo.heap.size := (Array.getElem?_eq_some_iff.1 hW.blk).1
          have hos := hW.old.size
          have HLOW := Lib.hid hK.low
          have HNONE := Lib.hid hK.none
          have HOLD := Lib.hid hW.old
          have HFINE := Lib.hid hfine
          have HLS := Lib.hid hls
          have HO := Lib.hid hown
          have HMI := Lib.hid hMI
          clear hW hK hB hF hS hM hD hfine hHO hls hown hMI hl
          go_wp2_with fail
          go_loopw [8, 63] (fun v i wz => ∃ k : Nat, k ≤ n ∧ i = .int .i64 (k : Int) ∧ wz.ownsRow wo.heap.size 3 1 v k (ints ((List.range k).map H)) ∧ Below wo.heap.size wo wz) (fun _ i _ => n - (intOf i).toNat)
          case atStart => exact ⟨0, by omega, rfl, World.ownsRow_nil _ _ _ _, Below.refl _ _⟩
          case round =>
            obtain ⟨k, hk, rfl, hrow, hb⟩ := hrel
            have hbs := hb.size
            by_cases hlt : k < n
            · have hg : wo.grownBy wr none := ⟨hb.os, hb.tape, hb.output, hb.size, fun j hj _ => hb.block j hj⟩
              have ho := HO.out.kept hg (by simp)
              have d1 : wr.cell? ⟨w1.heap.size + 1, 1, none⟩ = some (.map (some w1.heap.size)) := cell_below hb (Nat.le_refl _) c1
              have hkey : keyOf Try.prog 3 (.int .i64 (k : Int)) = some (keyL k) := Go.Maps.keyOf_int_mk Try.underlying3 (WalkArith.wf_i64 (by omega))
              have hat := HMI.out.at_ k
              have hhas := HMI.out.has k
              have hlow := HLOW.out k
              have hnone := HNONE.out k
              obtain ⟨x, hx⟩ : ∃ x, x = H k := ⟨_, rfl⟩
              rw [← hx] at hat hhas hlow hnone
              have e1 : (List.range (k + 1)).map H = (List.range k).map H ++ [x] := by rw [List.range_succ, List.map_append, hx]; rfl
              have HE := Lib.hid e1
              have HROW := Lib.hid hrow
              have HB := Lib.hid hb
              have HO2 := Lib.hid ho
              have HKEY := Lib.hid hkey
              have HAT := Lib.hid hat
              clear hg ho hkey hat hx e1 hrow hb
              by_cases hs : 0 ≤ x
              · have hh : Maps.has D (keyL k) = true := by rw [hhas]; simp [hs]
                have HH := Lib.hid hh
                have HA := Lib.hid (HAT.out hs)
                clear hhas hh hnone
                go_wp2_with (first | (at_lookup; refine wpList_lookup_own_ok_int _ rfl _ _ 78 rfl 3 3 .i64 lawI Try.underlying78 Try.underlying3 (zeroI _) w1.heap.size _ _ rfl HO2.out _ _ rfl HKEY.out ?_; rw [HH.out]; intro c hc2 _; rw [HA.out] at hc2; simp only [DataW.lit.injEq, Lit.int.injEq, true_and] at hc2; subst hc2) | (at_builtin; refine app_own _ elemInt rfl _ _ rfl wo.heap.size _ k _ rfl (HROW.out.alloc _) _ 1 (ints [x]) rfl (rd_new _ _ _ _ _ (by simp) (by simp [maxLen])) (one_ints _) (by simp only [maxLen]; omega) (by omega) (by simp; omega) ?_; intro v3 w3 ho3 hg3))
                go_roundw
                case rel => exact ⟨k + 1, by omega, by go_num, by rw [HE.out, ints_append]; exact ho3, below_of_grown (HB.out.alloc HB.out.size _) (by have := HB.out.size; simp; omega) (HROW.out.alloc _) (Nat.le_refl _) rfl hg3⟩
                case measure => simp [intOf]; omega
              · have hh : Maps.has D (keyL k) = false := by rw [hhas]; simp [hs]
                obtain rfl : x = -1 := hnone (by omega)
                have HH := Lib.hid hh
                clear hhas hh hnone
                go_wp2_with (first | (at_lookup; refine wpList_lookup_own_ok_int _ rfl _ _ 78 rfl 3 3 .i64 lawI Try.underlying78 Try.underlying3 (zeroI _) w1.heap.size _ _ rfl HO2.out _ _ rfl HKEY.out ?_; rw [HH.out]; intro c _ _) | (at_builtin; refine app_own _ elemInt rfl _ _ rfl wo.heap.size _ k _ rfl (HROW.out.alloc _) _ 1 (ints [-1]) rfl (rd_new _ _ _ _ _ (by simp) (by simp [maxLen])) (one_ints _) (by simp only [maxLen]; omega) (by omega) (by simp; omega) ?_; intro v3 w3 ho3 hg3))
                go_roundw
                case rel => exact ⟨k + 1, by omega, by go_num, by rw [HE.out, ints_append]; exact ho3, below_of_grown (HB.out.alloc HB.out.size _) (by have := HB.out.size; simp; omega) (HROW.out.alloc _) (Nat.le_refl _) rfl hg3⟩
                case measure => simp [intOf]; omega
            · obtain rfl : k = n := by omega
              have hR : HRes V N k w (.returned (.tuple #[u8, .bool true])) wr := ⟨HOLD.out.trans (hb.mono HOLD.out.size), .inl ⟨⟨HOK.out, HFINE.out⟩, _, rfl, by rw [HLS.out]; exact rd_of_owns hrow⟩⟩
              have HR := Lib.hid hR
              clear hR hrow hb hbs
              go_wp2_with fail
              go_ret2
              exact HR.out
  · have HCK := Lib.hid (check_ill w a n cap V N hp hok)
    have HOK := Lib.hid hok
    clear hok hp
    go_enter Try.func33, Try.ntmps33
    go_wp2_with fail
    refine HCK.out.mono ?_; rintro e w1 ⟨⟨x, rfl⟩, hb1⟩
    go_wp2_with fail
    go_ret2
    exact ⟨hb1, .inr ⟨fun h => HOK.out h.1, rfl⟩⟩
end Go.Proofs.Ytgkdphnhfjjepaa

/- Contracts of the seat's Made, of Place. -/
namespace Go.Proofs.Ytgkdphnhfjjepaa
open Go.RowKit Go.Waf
set_option maxRecDepth 100000
set_option linter.unusedVariables false
set_option linter.unusedSimpArgs false

def placeC (x n : Int) : Int := if x.tmod n < 0 then x.tmod n + n else x.tmod n
theorem placeC_in (x n : Int) (hn : 1 ≤ n) : 0 ≤ placeC x n ∧ placeC x n < n := by
  have h1 : -n < x.tmod n := Int.lt_tmod_of_pos x (by omega)
  have h2 : x.tmod n < n := Int.tmod_lt_of_pos x (by omega)
  unfold placeC
  split <;> omega
theorem place_any (x n : Int) (hn0 : 1 ≤ n) (hn1 : n ≤ 1000) (w : World) : Calls Try.prog 38 #[.int .i64 x, .int .i64 n] w fun e w' => e = .returned (.int .i64 (placeC x n)) ∧ w = w' := by
  have hin := placeC_in x n hn0
  have h1 : -n < x.tmod n := Int.lt_tmod_of_pos x (by omega)
  have h2 : x.tmod n < n := Int.tmod_lt_of_pos x (by omega)
  obtain ⟨r, hr⟩ : ∃ r, Int.tmod x n = r := ⟨_, rfl⟩
  have hp : placeC x n = if r < 0 then r + n else r := by rw [← hr]; rfl
  rw [hr] at h1 h2
  have HP := Lib.hid hp
  rw [hp]
  clear hp hin
  by_cases h : r < 0
  · rw [if_pos h]
    go_enter Try.func38, Try.ntmps38
    go_wp2_with fail
    go_ret
    exact ⟨rfl, rfl⟩
  · rw [if_neg h]
    go_enter Try.func38, Try.ntmps38
    go_wp2_with fail
    go_ret
    exact ⟨rfl, rfl⟩

/-! ### Rows of instructions -/
theorem elemC : Elem Try.prog 26 25 2 16 := Elem.mk' (z := .agg #[.int .i64 0, .int .i32 0]) Try.underlying26 (by kernel_rfl) rfl (by decide)
def codes (l : List (Int × Int)) : List Value := l.flatMap fun p => [.int .i64 p.1, .int .i32 p.2]
theorem codes_append (l m : List (Int × Int)) : codes (l ++ m) = codes l ++ codes m := by simp [codes]
theorem codes_length : ∀ l : List (Int × Int), (codes l).length = l.length * 2
  | [] => rfl
  | p :: l => by have := codes_length l; simp only [codes, List.flatMap_cons, List.length_append, List.length_cons, List.length_nil] at this ⊢; omega
theorem codes_one (l : List (Int × Int)) : ∀ u ∈ codes l, u.oneCell' = true := by
  intro u hu
  simp only [codes, List.mem_flatMap] at hu
  obtain ⟨p, _, hp⟩ := hu
  simp at hp
  rcases hp with rfl | rfl <;> rfl
theorem codes_get : ∀ (l : List (Int × Int)) (i : Nat), i < l.length → (codes l)[i * 2]? = some (.int .i64 (l.getD i (0, 0)).1) ∧ (codes l)[i * 2 + 1]? = some (.int .i32 (l.getD i (0, 0)).2)
  | [], i, h => by simp at h
  | p :: l, 0, h => by simp [codes]
  | p :: l, i + 1, h => by
    have ih := codes_get l i (by simpa using h)
    have e : codes (p :: l) = .int .i64 p.1 :: .int .i32 p.2 :: codes l := by simp [codes]
    rw [e, show (i + 1) * 2 = i * 2 + 1 + 1 by omega, show i * 2 + 1 + 1 + 1 = (i * 2 + 1) + 1 + 1 by omega]
    simp only [List.getElem?_cons_succ, List.getD_cons_succ]
    exact ih
def FitP (p : Int × Int) : Prop := (Lit.int .i64 p.1).wf = true ∧ (Lit.int .i32 p.2).wf = true
theorem pairs_of_rd {w : World} {a : Option Addr} {n cap : Nat} {l : List (Int × Int)} (hl : l.length = n) (hr : Rd w 2 (.slice a n cap) n (codes l)) (hf : ∀ p ∈ l, FitP p) :
    PairsAt w .i64 .i32 a n cap (fun i => (l.getD i (0, 0)).1) (fun i => (l.getD i (0, 0)).2) := by
  obtain ⟨_, a', cap', he, h1, h2, h3, h4⟩ := hr
  cases he
  unfold maxLen at h2
  refine ⟨h1, h2, h3, fun hn => ?_, fun i hi => ?_⟩
  · obtain ⟨b, off, rfl, hc⟩ := h4 hn
    refine ⟨b, off, rfl, World.block_lt_of_cell? w ⟨b, off + 0, none⟩ (hc 0 _ ((codes_get l 0 (by omega)).1)), fun i hi => ?_⟩
    obtain ⟨g1, g2⟩ := codes_get l i (by omega)
    exact ⟨hc _ _ g1, by rw [Nat.add_assoc]; exact hc _ _ g2⟩
  · have hm : l.getD i (0, 0) ∈ l := by
      rw [List.getD_eq_getElem?_getD, List.getElem?_eq_getElem (by omega)]
      simp
    exact hf _ hm
def MadeRes (n : Nat) (w : World) (e : Ending) (w' : World) : Prop := ∃ a cap V N, e = .returned (.slice a (n + 1) cap) ∧ PairsAt w' .i64 .i32 a (n + 1) cap V N ∧ Below w.heap.size w w'

set_option maxHeartbeats 6400000 in
theorem made_any (w : World) (a : Option Addr) (n cap : Nat) (V N : Nat → Int) (hn : n ≤ 100) (hp : PairsAt w .i64 .i32 a n cap V N) :
    Calls Try.prog 24 #[.slice a n cap] w (MadeRes n w) := by
  have hle := hp.le
  have hcap := hp.cap63
  have HP := Lib.hid hp
  clear hp
  go_enter Try.func24, Try.ntmps24
  go_wp2_with fail
  go_loopw [3, 4] (fun v i wr => ∃ (k : Nat) (l : List (Int × Int)), k ≤ n ∧ i = .int .i64 (k : Int) ∧ l.length = k ∧ (∀ p ∈ l, FitP p) ∧ wr.ownsRow w.heap.size 25 2 v k (codes l) ∧ Below w.heap.size w wr) (fun _ i _ => n - (intOf i).toNat)
  case atStart => exact ⟨0, [], by omega, rfl, rfl, by simp, World.ownsRow_nil _ _ _ _, Below.refl _ _⟩
  case round =>
    obtain ⟨k, l, hk, rfl, hl, hf, hrow, hb⟩ := hrel
    have HL := Lib.hid hl
    have HF := Lib.hid hf
    have HROW := Lib.hid hrow
    have HB := Lib.hid hb
    have hbs := hb.size
    by_cases hlt : k < n
    · have hpw := HP.out.below hb (Nat.le_refl _)
      obtain ⟨ab, ao, rfl, habl, hcs⟩ := hpw.cells (by omega)
      obtain ⟨kv, kn⟩ := hcs k hlt
      obtain ⟨hn0, hn1⟩ := rng_i32 (hpw.wf k hlt).2
      obtain ⟨v, hv⟩ : ∃ v, v = V k := ⟨_, rfl⟩
      obtain ⟨c, hc⟩ : ∃ c, c = N k := ⟨_, rfl⟩
      rw [← hv] at kv
      rw [← hc] at kn hn0 hn1
      obtain ⟨q, hq⟩ : ∃ q, q = placeC v 34 := ⟨_, rfl⟩
      have hqb := placeC_in v 34 (by omega)
      have hpl := fun W => place_any v 34 (by omega) (by omega) W
      rw [← hq] at hqb hpl
      have HPL := Lib.hid hpl
      obtain ⟨hq0, hq1⟩ := hqb
      clear hpw hcs hv hc hq hpl hl hf hrow hb
      go_upto_region 5 with fail
      go_cut [5] (fun p wx => ∃ g, p = .pointer (some ⟨g, 0, none⟩) ∧ wx.heap[g]? = some (.cells #[.int .i64 q, .int .i32 c] 25 (0, 0)) ∧ wr.heap.size ≤ g ∧ Below wr.heap.size wr wx)
      case first =>
        go_region_with (go_at_call 38; refine (HPL.out _).mono ?_; rintro e w3 ⟨rfl, rfl⟩)
        all_goals
          go_wp2_with fail
          go_meet
          case rel => exact ⟨_, rfl, heap_alloc_new wr _, Nat.le_refl _, ((Below.refl _ _).alloc (Nat.le_refl _) _).drew⟩
      case rest =>
        obtain ⟨g, rfl, hblk, hgs, hb2⟩ := hcut
        have d0 : wc.cell? ⟨g, 0, none⟩ = some (.int .i64 q) := by rw [cell_of_row wc g 0 _ _ _ hblk]; rfl
        have d1 : wc.cell? ⟨g, 1, none⟩ = some (.int .i32 c) := by rw [cell_of_row wc g 1 _ _ _ hblk]; rfl
        have f1 := frozen_of_row wc g 1 _ _ hblk
        obtain ⟨z, hz⟩ : ∃ z, z = hasOp q := ⟨_, rfl⟩
        have hHAS := fun W => rhas_any q W
        rw [← hz] at hHAS
        have HHAS := Lib.hid hHAS
        have HZ := Lib.hid hz
        have HBLK := Lib.hid hblk
        have HB2 := Lib.hid hb2
        clear hHAS hz hblk hb2 kv kn HPL
        go_upto_block 2 with fail
        go_cut [] (fun wx => ∃ kk : Int, -2147483648 ≤ kk ∧ kk ≤ 2147483647 ∧ wx.heap[g]? = some (.cells #[.int .i64 q, .int .i32 kk] 25 (0, 0)) ∧ Below wr.heap.size wr wx)
        case first =>
          have hset : ∀ kk : Int, (wc.setCell ⟨g, 1, none⟩ (.int .i32 kk)).heap[g]? = some (.cells #[.int .i64 q, .int .i32 kk] 25 (0, 0)) := fun kk => by
            rw [heap_setCell_same wc g 1 _ _ _ HBLK.out]; rfl
          have HSET := Lib.hid hset
          clear hset
          have hPC := fun (m : Int) (h1 : 1 ≤ m) (h2 : m ≤ 1000) W => place_any c m h1 h2 W
          have hPB := fun (m : Int) (h1 : 1 ≤ m) => placeC_in c m h1
          have HPC := Lib.hid hPC
          have HPB := Lib.hid hPB
          clear hPC hPB
          cases z with
          | false =>
            go_wp2_with fail
            refine (HHAS.out _).mono ?_; rintro e w3 ⟨rfl, rfl⟩
            go_wp2_with fail
            go_meet
            case rel => exact ⟨0, by omega, by omega, HSET.out 0, HB2.out.setCell hgs _⟩
          | true =>
            have hq : q = 1 ∨ q = 5 ∨ q = 8 ∨ q = 25 ∨ q = 26 ∨ q = 27 ∨ q = 28 ∨ q = 30 := by
              have := HZ.out.symm
              simpa [hasOp, or_assoc] using this
            rcases hq with h | h | h | h | h | h | h | h
            · subst h
              go_wp2_with fail
              refine (HHAS.out _).mono ?_; rintro e w3 ⟨rfl, rfl⟩
              go_wp2_with fail
              go_meet
              case rel => exact ⟨c, hn0, hn1, HBLK.out, HB2.out⟩
            · subst h
              have hb6 := HPB.out 6 (by omega)
              obtain ⟨y, hy⟩ : ∃ y, y = placeC c 6 := ⟨_, rfl⟩
              have hp6 := fun W => HPC.out 6 (by omega) (by omega) W
              rw [← hy] at hb6 hp6
              have HP6 := Lib.hid hp6
              obtain ⟨hb60, hb61⟩ := hb6
              clear hp6 hy
              go_wp2_with fail
              refine (HHAS.out _).mono ?_; rintro e w3 ⟨rfl, rfl⟩
              go_wp2_with fail
              refine (HP6.out _).mono ?_; rintro e w3 ⟨rfl, rfl⟩
              go_wp2_with fail
              go_meet
              case rel => exact ⟨_, by omega, by omega, HSET.out _, HB2.out.setCell hgs _⟩
            · subst h
              have hb6 := HPB.out 6 (by omega)
              obtain ⟨y, hy⟩ : ∃ y, y = placeC c 6 := ⟨_, rfl⟩
              have hp6 := fun W => HPC.out 6 (by omega) (by omega) W
              rw [← hy] at hb6 hp6
              have HP6 := Lib.hid hp6
              obtain ⟨hb60, hb61⟩ := hb6
              clear hp6 hy
              go_wp2_with fail
              refine (HHAS.out _).mono ?_; rintro e w3 ⟨rfl, rfl⟩
              go_wp2_with fail
              refine (HP6.out _).mono ?_; rintro e w3 ⟨rfl, rfl⟩
              go_wp2_with fail
              go_meet
              case rel => exact ⟨_, by omega, by omega, HSET.out _, HB2.out.setCell hgs _⟩
            · subst h
              have hb6 := HPB.out ((n : Int) + 1) (by omega)
              obtain ⟨y, hy⟩ : ∃ y, y = placeC c ((n : Int) + 1) := ⟨_, rfl⟩
              have hp6 := fun W => HPC.out ((n : Int) + 1) (by omega) (by omega) W
              rw [← hy] at hb6 hp6
              have HP6 := Lib.hid hp6
              obtain ⟨hb60, hb61⟩ := hb6
              clear hp6 hy
              go_wp2_with fail
              refine (HHAS.out _).mono ?_; rintro e w3 ⟨rfl, rfl⟩
              go_wp2_with fail
              refine (HP6.out _).mono ?_; rintro e w3 ⟨rfl, rfl⟩
              go_wp2_with fail
              go_meet
              case rel => exact ⟨_, by omega, by omega, HSET.out _, HB2.out.setCell hgs _⟩
            · subst h
              have hb6 := HPB.out ((n : Int) + 1) (by omega)
              obtain ⟨y, hy⟩ : ∃ y, y = placeC c ((n : Int) + 1) := ⟨_, rfl⟩
              have hp6 := fun W => HPC.out ((n : Int) + 1) (by omega) (by omega) W
              rw [← hy] at hb6 hp6
              have HP6 := Lib.hid hp6
              obtain ⟨hb60, hb61⟩ := hb6
              clear hp6 hy
              go_wp2_with fail
              refine (HHAS.out _).mono ?_; rintro e w3 ⟨rfl, rfl⟩
              go_wp2_with fail
              refine (HP6.out _).mono ?_; rintro e w3 ⟨rfl, rfl⟩
              go_wp2_with fail
              go_meet
              case rel => exact ⟨_, by omega, by omega, HSET.out _, HB2.out.setCell hgs _⟩
            · subst h
              have hb6 := HPB.out ((n : Int) + 1) (by omega)
              obtain ⟨y, hy⟩ : ∃ y, y = placeC c ((n : Int) + 1) := ⟨_, rfl⟩
              have hp6 := fun W => HPC.out ((n : Int) + 1) (by omega) (by omega) W
              rw [← hy] at hb6 hp6
              have HP6 := Lib.hid hp6
              obtain ⟨hb60, hb61⟩ := hb6
              clear hp6 hy
              go_wp2_with fail
              refine (HHAS.out _).mono ?_; rintro e w3 ⟨rfl, rfl⟩
              go_wp2_with fail
              refine (HP6.out _).mono ?_; rintro e w3 ⟨rfl, rfl⟩
              go_wp2_with fail
              go_meet
              case rel => exact ⟨_, by omega, by omega, HSET.out _, HB2.out.setCell hgs _⟩
            · subst h
              have hb6 := HPB.out 6 (by omega)
              obtain ⟨y, hy⟩ : ∃ y, y = placeC c 6 := ⟨_, rfl⟩
              have hp6 := fun W => HPC.out 6 (by omega) (by omega) W
              rw [← hy] at hb6 hp6
              have HP6 := Lib.hid hp6
              obtain ⟨hb60, hb61⟩ := hb6
              clear hp6 hy
              go_wp2_with fail
              refine (HHAS.out _).mono ?_; rintro e w3 ⟨rfl, rfl⟩
              go_wp2_with fail
              refine (HP6.out _).mono ?_; rintro e w3 ⟨rfl, rfl⟩
              go_wp2_with fail
              go_meet
              case rel => exact ⟨_, by omega, by omega, HSET.out _, HB2.out.setCell hgs _⟩
            · subst h
              have hb6 := HPB.out 15 (by omega)
              obtain ⟨y, hy⟩ : ∃ y, y = placeC c 15 := ⟨_, rfl⟩
              have hp6 := fun W => HPC.out 15 (by omega) (by omega) W
              rw [← hy] at hb6 hp6
              have HP6 := Lib.hid hp6
              obtain ⟨hb60, hb61⟩ := hb6
              clear hp6 hy
              go_wp2_with fail
              refine (HHAS.out _).mono ?_; rintro e w3 ⟨rfl, rfl⟩
              go_wp2_with fail
              refine (HP6.out _).mono ?_; rintro e w3 ⟨rfl, rfl⟩
              go_wp2_with fail
              go_meet
              case rel => exact ⟨_, by omega, by omega, HSET.out _, HB2.out.setCell hgs _⟩
        case rest =>
          obtain ⟨kk, hk0, hk1, hblk, hb3⟩ := hcut
          have e0 : wc.cell? ⟨g, 0, none⟩ = some (.int .i64 q) := by rw [cell_of_row wc g 0 _ _ _ hblk]; rfl
          have e1 : wc.cell? ⟨g, 1, none⟩ = some (.int .i32 kk) := by rw [cell_of_row wc g 1 _ _ _ hblk]; rfl
          have hg3 : wr.grownBy wc none := ⟨hb3.os, hb3.tape, hb3.output, hb3.size, fun j hj _ => hb3.block j hj⟩
          have HR3 := Lib.hid (HROW.out.kept hg3 (Classical.em _))
          have HB3 := Lib.hid (HB.out.trans (hb3.mono HB.out.size))
          have hsz3 := HB3.out.size
          have HFP := Lib.hid (show FitP (q, kk) from ⟨WalkArith.wf_i64 (by omega), WalkArith.wf_i32 (by omega)⟩)
          clear hg3 hblk hb3 d0 d1 f1
          go_wp2_with (at_builtin; refine app_own _ elemC rfl _ _ rfl w.heap.size _ k (codes l) rfl (HR3.out.alloc _) _ 1 (codes [(q, kk)]) rfl (rd_new _ _ _ _ _ (by simp) (by simp [maxLen])) (codes_one _) (by simp only [maxLen]; omega) (by omega) (by simp; omega) ?_; intro v3 w3 ho3 hg3)
          go_roundw
          case rel =>
            refine ⟨k + 1, l ++ [(q, kk)], by omega, by go_num, by rw [List.length_append, HL.out]; rfl, ?_, by rw [codes_append]; exact ho3, below_of_grown (HB3.out.alloc hsz3 _) (by simp; omega) (HR3.out.alloc _) (Nat.le_refl _) rfl hg3⟩
            intro p hp
            rcases List.mem_append.1 hp with h | h
            · exact HF.out p h
            · simp at h; rw [h]; exact HFP.out
          case measure => simp [intOf]; omega
    · obtain rfl : k = n := by omega
      clear hl hf hrow hb
      go_wp2_with (at_builtin; refine app_own _ elemC rfl _ _ rfl w.heap.size _ k (codes l) rfl (HROW.out.alloc _) _ 1 (codes [(0, 0)]) rfl (rd_new _ _ _ _ _ (by simp) (by simp [maxLen])) (codes_one _) (by simp only [maxLen]; omega) (by omega) (by simp; omega) ?_; intro v3 w3 ho3 hg3)
      have hb3 := below_of_grown (HB.out.alloc hbs (.cells (codes [(0, 0)]).toArray 25)) (by simp; omega) (HROW.out.alloc _) (Nat.le_refl _) rfl hg3
      have hrd := rd_of_owns ho3
      rw [← codes_append] at hrd
      obtain ⟨va, vc, rfl, _, _, _⟩ := rd_shape hrd
      have hres : MadeRes k w (.returned (.slice va (k + 1) vc)) w3 := ⟨va, vc, _, _, rfl, pairs_of_rd (by rw [List.length_append, HL.out]; rfl) hrd (fun p hp => by
        rcases List.mem_append.1 hp with h | h
        · exact HF.out p h
        · simp at h; rw [h]; exact ⟨by decide, by decide⟩), hb3⟩
      have HRES := Lib.hid hres
      clear hrd hb3 hres
      go_wp2_with fail
      go_ret
      exact HRES.out
end Go.Proofs.Ytgkdphnhfjjepaa

/- The contract of StackSafe (printed by gen_stk53.py). -/
namespace Go.Proofs.Ytgkdphnhfjjepaa
open Go.RowKit Go.Waf
set_option maxRecDepth 100000
set_option linter.unusedVariables false
set_option linter.unusedSimpArgs false

set_option maxHeartbeats 6400000 in
theorem stackSafe_any (a0 : Option Addr) (len0 cap0 : Nat) (V0 N0 : Nat → Int) (a1 : Option Addr) (len1 cap1 : Nat) (z1 : List Int) (fuel : Int) (w : World) (w0 : PairsAt w .i64 .i32 a0 len0 cap0 V0 N0) (w1 : RowOf .u8 w a1 len1 cap1 z1) (w2 : (Lit.int .u8 fuel).wf = true) :
    Calls Try.prog 10 #[.slice a0 len0 cap0, .slice a1 len1 cap1, .int .u8 fuel] w fun e w' => e = .returned (.bool true) ∧ Below w.heap.size w w' := by
  obtain ⟨f0, f1⟩ := rng_u8 w2
  have l0 := w0.le
  have l1 := w0.cap63
  obtain ⟨l2, l3⟩ := w1.bounds
  have KN := Lib.hid (fun W => known_any W)
  by_cases hbig : 40 < len0 ∨ 20 < len1
  · have hsplit : 40 < len0 ∨ (len0 ≤ 40 ∧ 20 < len1) := by omega
    clear w0 w1 w2 hbig
    rcases hsplit with h | ⟨h, h'⟩
    all_goals
      go_enter Try.func10, Try.ntmps10
      go_wp2_with (go_at_call 11; refine (KN.out _).mono ?_; rintro e w1 ⟨rfl, hb1⟩)
      go_ret
      exact ⟨rfl, hb1⟩
  have hl0 : len0 ≤ 40 := by omega
  have hl1 : len1 ≤ 20 := by omega
  have W0 := Lib.hid w0
  have ri := w1.rd
  have hi := byt_of_row w1
  have hil := w1.len
  obtain ⟨inp, hinp⟩ : ∃ c, c = z1.take len1 := ⟨_, rfl⟩
  rw [← hinp] at ri hi hil
  have ri' : Rd w 1 (.slice a1 len1 cap1) inp.length (byt inp) := by rw [hil]; exact ri
  have RI := Lib.hid ri'
  have HI := Lib.hid hi
  have hil' : inp.length ≤ 20 := by omega
  obtain ⟨FU, rfl⟩ := Int.eq_ofNat_of_zero_le f0
  have hFU : IntKind.i64.wrap (FU : Int) = FU := IntWalk.i64_in _ (by omega)
  have hd40 : decide (40 < (len0 : Int)) = false := by simp; omega
  have hd20 : decide (20 < (len1 : Int)) = false := by simp; omega
  clear w0 w1 w2 hbig ri hi hinp ri' hil
  go_enter Try.func10, Try.ntmps10
  go_wp2_with (go_at_call 11; refine (KN.out _).mono ?_; rintro e wc ⟨rfl, hbc⟩; have HBC := Lib.hid hbc; clear hbc)
  refine (made_any _ a0 len0 cap0 V0 N0 (by omega) (W0.out.below HBC.out (Nat.le_refl _))).mono ?_
  rintro e wr ⟨am, cm, V, NV, rfl, hPm, hbm⟩
  have HB := Lib.hid (HBC.out.trans (hbm.mono HBC.out.size))
  have HP := Lib.hid hPm
  have hnc := hPm.le
  have hcm := hPm.cap63
  obtain ⟨n, hn⟩ : ∃ n, n = len0 + 1 := ⟨_, rfl⟩
  rw [← hn] at HP hnc
  rw [← hn]
  have hn41 : n ≤ 41 := by omega
  have hn1 : 1 ≤ n := by omega
  clear hPm hbm hn
  go_wp2_with fail
  go_loop [8] (fun i => ∃ j : Nat, j ≤ n ∧ i = .int .i64 j ∧ ∀ i', i' < j → V i' ≠ 27 ∧ V i' ≠ 29) (fun i => n - (intOf i).toNat)
  case atStart => exact ⟨0, by omega, rfl, fun i' h => absurd h (by omega)⟩
  case round =>
    obtain ⟨j, hj, rfl, hall⟩ := hrel
    have HALL := Lib.hid hall
    clear hall
    by_cases hlt : j < n
    · obtain ⟨b, off, rfl, hbl, hcs⟩ := HP.out.cells (by omega)
      obtain ⟨c1, _⟩ := hcs j hlt
      obtain ⟨v, hv⟩ : ∃ v, v = V j := ⟨_, rfl⟩
      rw [← hv] at c1
      have HV := Lib.hid hv
      have k0 : (0 : Int) ≤ (j : Int) := by omega
      have k1 : (j : Int) < (n : Int) := by omega
      clear hcs hv
      by_cases h27 : v = 27
      · have t1 : (v == 27) = true := by simp; exact h27
        clear h27
        go_wp2_with fail
        go_ret
        exact ⟨rfl, HB.out⟩
      · have t1 : (v == 27) = false := by simp; exact h27
        by_cases h29 : v = 29
        · have t2 : (v == 29) = true := by simp; exact h29
          clear h27 h29
          go_wp2_with fail
          go_ret
          exact ⟨rfl, HB.out⟩
        · have t2 : (v == 29) = false := by simp; exact h29
          have HNE := Lib.hid (And.intro h27 h29)
          clear h27 h29
          go_wp2_with fail
          go_round
          case rel => exact ⟨j + 1, by omega, by go_num, fun i' hi' => by
            rcases (by omega : i' < j ∨ i' = j) with h | rfl
            · exact HALL.out i' h
            · rw [← HV.out]; exact HNE.out⟩
          case measure => simp [intOf]; omega
    · obtain rfl : j = n := by omega
      clear hlt
      go_wp2_with fail
      refine (heights_any _ am j cm V NV (by omega) HP.out).mono ?_
      rintro e w2 ⟨hb2, hres⟩
      have HB2 := Lib.hid (HB.out.trans (hb2.mono HB.out.size))
      have HP2 := Lib.hid (HP.out.below hb2 (Nat.le_refl _))
      clear hb2
      rcases hres with ⟨⟨hO, hF⟩, v, rfl, hrdv⟩ | ⟨_, rfl⟩
      · obtain ⟨hl1', ha, hc, rfl, hnc2, hcm2, _, hc4⟩ := id hrdv
        unfold maxLen at hcm2
        obtain ⟨hb, ho, rfl, hcells⟩ := hc4 (by omega)
        have HCELLS := Lib.hid hcells
        have HHB := Lib.hid (show ∀ i, i < j → hb < w2.heap.size from fun i hi => World.block_lt_of_cell? w2 _ (hcells i _ (ints_get (hList V NV j) i (by rw [hList_length]; exact hi))))
        have HO := Lib.hid hO
        have HF := Lib.hid hF
        have hrc := rd_of_pairs HP2.out
        have hk := code_ok_of HP2.out
        have hcl := codeOf_length V NV j
        have HAT := Lib.hid (fun i => at_stepN hO HALL.out (new_top0 (codeOf V NV j) 100 10 inp) (at_new V NV j 100 10 inp) i)
        have HKN := Lib.hid (fun i => new_keepsN (codeOf V NV j) 100 10 inp i)
        clear hrdv hl1' hc4 hcells hO hF
        go_wp2_with fail
        refine (pnew_any _ _ _ 100 100 10 (.inl rfl) (codeOf V NV j) inp hk (by omega) HI.out (by omega) (by omega) hrc (RI.out.below HB2.out (Nat.le_refl _))).mono ?_
        rintro e w5 ⟨Q, F, cv, mv, iv, rfl, hM, _, _, hb5⟩
        obtain ⟨s0, hs0⟩ : ∃ s0, s0 = SSt.new (codeOf V NV j) 100 10 inp := ⟨_, rfl⟩
        have hso0 : s0.out.length = 0 := by rw [hs0]; rfl
        rw [← hs0] at HAT HKN
        have HM := Lib.hid (show SM true w5 w2.heap.size Q F cv mv iv (.slice none 0 0) (.slice none 0 0) (.slice none 0 0) s0 from by rw [hs0]; exact hM)
        have HB5 := Lib.hid hb5
        have HSO := Lib.hid hso0
        clear hM hb5 hrc hk hcl hs0 hso0
        go_wp2_with fail
        go_loopw [12] (fun i wr => ∃ (t : Nat) (F' : Nat → Prop) (iv' sv' kv' ov' : Value), t ≤ FU ∧ i = .int .i64 t ∧ SM true wr w2.heap.size Q F' cv mv iv' sv' kv' ov' (s0.stepN t) ∧ Below w2.heap.size w2 wr) (fun i _ => FU - (intOf i).toNat)
        case atStart => exact ⟨0, F, iv, _, _, _, by omega, rfl, HM.out, HB5.out⟩
        case round =>
          obtain ⟨t, F', iv', sv', kv', ov', ht, rfl, hM, hbw⟩ := hrel
          have HMT := Lib.hid hM
          have HBW := Lib.hid hbw
          have hout : (s0.stepN t).out.length ≤ 300 := by have := (HKN.out t).2.2.2; rw [HSO.out] at this; omega
          have HAA := Lib.hid (HAT.out t)
          have HST := Lib.hid (SSt.stepN_succ s0 t)
          obtain ⟨st, hst⟩ : ∃ st, st = s0.stepN t := ⟨_, rfl⟩
          rw [← hst] at HMT HAA HST hout
          clear hM hbw hst
          by_cases hlt2 : t < FU
          · have hR := presult_any HMT.out (by omega)
            unfold ResRet at hR
            by_cases hfin : st.fin = 0
            · obtain ⟨P, hP, hHi⟩ := HAA.out.2 hfin
              have hPn := hHi.lt HO.out
              have hh := hOf_hi HF.out hHi
              have HFIN := Lib.hid hfin
              have HPE := Lib.hid hP
              have hfb : (st.fin == 0) = true := by simp; exact hfin
              have hfb2 : (st.fin != 0) = false := by simp; exact hfin
              obtain ⟨fin, hfe⟩ : ∃ f, f = st.fin := ⟨_, rfl⟩
              rw [← hfe] at hR hfb hfb2
              have HR := Lib.hid hR
              clear hR
              have hcP := HCELLS.out P _ (ints_get (hList V NV j) P (by rw [hList_length]; exact hPn))
              rw [hList_get V NV j P hPn, hh] at hcP
              obtain ⟨sl, hsl⟩ : ∃ sl, sl = st.st.length := ⟨_, rfl⟩
              rw [← hsl] at hcP
              have HSL := Lib.hid hsl
              have HCP := Lib.hid hcP
              have p0 : (0 : Int) ≤ (P : Int) := by omega
              have p1 : (P : Int) < (j : Int) := by omega
              have p2 : decide ((P : Int) < 0) = false := by simp
              have p3 : decide ((j : Int) ≤ (P : Int)) = false := by simp; omega
              have p4 : decide (j ≤ P) = false := by simp; omega
              clear hfin hP hHi hh hfe hcP hsl
              go_wp2_with fail
              refine HR.out.mono ?_; rintro e w6 ⟨v6, rfl, ho6, hb6⟩
              obtain ⟨a6, c6, rfl, _⟩ := owns_shape ho6
              have hM6 := HMT.out.below hb6
              have hPC := fun O : Obj => ppc_any (hM6.alloc O)
              rw [HPE.out] at hPC
              have HPC := Lib.hid hPC
              have HM6 := Lib.hid hM6
              have HB6 := Lib.hid (HBW.out.trans (hb6.mono HBW.out.size))
              clear ho6 hb6 hM6 hPC
              go_wp2_with fail
              refine (HPC.out _).mono ?_; rintro e w7 ⟨rfl, hw7⟩
              have hM7 := HM6.out.alloc (.cells #[.slice a6 st.out.length c6, .int .i64 fin, .int .i64 st.trap] 31)
              have hb7 := HB6.out.alloc HB6.out.size (.cells #[.slice a6 st.out.length c6, .int .i64 fin, .int .i64 st.trap] 31)
              rw [hw7] at hM7 hb7
              have HM7 := Lib.hid hM7
              have HB7 := Lib.hid hb7
              have HS := Lib.hid (show (fun W => W.cell? ⟨hb, ho + P, none⟩ = some (.int .i64 (sl : Int))) w7.drew from (hb7.cell (p := ⟨hb, ho + P, none⟩) (HHB.out P hPn)).trans HCP.out)
              clear hM7 hb7 hw7
              go_wp2_with fail
              obtain ⟨wd, hwd⟩ : ∃ wd : World, wd = w7.drew := ⟨_, rfl⟩
              refine wp_region_till 17 (fun W => W.cell? ⟨hb, ho + P, none⟩ = some (.int .i64 (sl : Int))) (by as_aux_lemma => kernel_rfl) ?_
              have HM7' := Lib.hid HM7.out.drew
              have HB7' := Lib.hid HB7.out.drew
              rw [← hwd] at HS HM7' HB7' ⊢
              clear hwd
              (refine wpAnyT_take (i := 0) (oi := ?_) (v := ?_) ?_ (by as_aux_lemma => kernel_rfl) (by as_aux_lemma => kernel_rfl) (by as_aux_lemma => kernel_rfl) (by as_aux_lemma => kernel_rfl) ?_ (Or.inl ⟨?_, ?_⟩) HS.out ?_; rotate_left 2; (focus (simp only [List.getElem?_toArray, List.getElem?_cons_succ, List.getElem?_cons_zero] <;> rfl)); (focus exact (fun _ _ _ h => h)); (focus rfl); (focus (intro w hSw; (try dsimp only at hSw); go_simp; try (with_reducible rfl))))
              (try simp only [Act.put, List.setIfInBounds_toArray, List.set_cons_zero, List.set_cons_succ])
              (refine wpAnyT_take (i := 1) (oi := ?_) (v := ?_) ?_ (by as_aux_lemma => kernel_rfl) (by as_aux_lemma => kernel_rfl) (by as_aux_lemma => kernel_rfl) (by as_aux_lemma => kernel_rfl) ?_ (Or.inl ⟨?_, ?_⟩) HS.out ?_; rotate_left 2; (focus (simp only [List.getElem?_toArray, List.getElem?_cons_succ, List.getElem?_cons_zero] <;> rfl)); (focus exact (fun _ _ _ h => h)); (focus rfl); (focus (intro w hSw; (try dsimp only at hSw); go_simp; try (with_reducible rfl))))
              (try simp only [Act.put, List.setIfInBounds_toArray, List.set_cons_zero, List.set_cons_succ])
              (refine wpAnyT_take (i := 2) (oi := ?_) (v := ?_) ?_ (by as_aux_lemma => kernel_rfl) (by as_aux_lemma => kernel_rfl) (by as_aux_lemma => kernel_rfl) (by as_aux_lemma => kernel_rfl) ?_ (Or.inl ⟨?_, ?_⟩) HS.out ?_; rotate_left 2; (focus (simp only [List.getElem?_toArray, List.getElem?_cons_succ, List.getElem?_cons_zero] <;> rfl)); (focus exact (fun _ _ _ h => h)); (focus rfl); (focus (intro w hSw; (try dsimp only at hSw); go_simp; try (with_reducible rfl))))
              (try simp only [Act.put, List.setIfInBounds_toArray, List.set_cons_zero, List.set_cons_succ])
              (refine wpAnyT_take (i := 3) (oi := ?_) (v := ?_) ?_ (by as_aux_lemma => kernel_rfl) (by as_aux_lemma => kernel_rfl) (by as_aux_lemma => kernel_rfl) (by as_aux_lemma => kernel_rfl) ?_ (Or.inl ⟨?_, ?_⟩) HS.out ?_; rotate_left 2; (focus (simp only [List.getElem?_toArray, List.getElem?_cons_succ, List.getElem?_cons_zero] <;> rfl)); (focus exact (fun _ _ _ h => h)); (focus rfl); (focus (intro w hSw; (try dsimp only at hSw); go_simp; try (with_reducible rfl))))
              (try simp only [Act.put, List.setIfInBounds_toArray, List.set_cons_zero, List.set_cons_succ])
              (refine wpAnyT_take (i := 4) (oi := ?_) (v := ?_) ?_ (by as_aux_lemma => kernel_rfl) (by as_aux_lemma => kernel_rfl) (by as_aux_lemma => kernel_rfl) (by as_aux_lemma => kernel_rfl) ?_ (Or.inl ⟨?_, ?_⟩) HS.out ?_; rotate_left 2; (focus (simp only [List.getElem?_toArray, List.getElem?_cons_succ, List.getElem?_cons_zero] <;> rfl)); (focus exact (fun _ _ _ h => h)); (focus rfl); (focus (intro w hSw; (try dsimp only at hSw); go_simp; try (with_reducible rfl))))
              (try simp only [Act.put, List.setIfInBounds_toArray, List.set_cons_zero, List.set_cons_succ])
              (refine wpAnyT_take (i := 5) (oi := ?_) (v := ?_) ?_ (by as_aux_lemma => kernel_rfl) (by as_aux_lemma => kernel_rfl) (by as_aux_lemma => kernel_rfl) (by as_aux_lemma => kernel_rfl) ?_ (Or.inl ⟨?_, ?_⟩) HS.out ?_; rotate_left 2; (focus (simp only [List.getElem?_toArray, List.getElem?_cons_succ, List.getElem?_cons_zero] <;> rfl)); (focus exact (fun _ _ _ h => h)); (focus rfl); (focus (intro w hSw; (try dsimp only at hSw); go_simp; try (with_reducible rfl))))
              (try simp only [Act.put, List.setIfInBounds_toArray, List.set_cons_zero, List.set_cons_succ])
              (refine wpAnyT_take (i := 6) (oi := ?_) (v := ?_) ?_ (by as_aux_lemma => kernel_rfl) (by as_aux_lemma => kernel_rfl) (by as_aux_lemma => kernel_rfl) (by as_aux_lemma => kernel_rfl) ?_ (Or.inl ⟨?_, ?_⟩) HS.out ?_; rotate_left 2; (focus (simp only [List.getElem?_toArray, List.getElem?_cons_succ, List.getElem?_cons_zero] <;> rfl)); (focus exact (fun _ _ _ h => h)); (focus rfl); (focus (intro w hSw; (try dsimp only at hSw); go_simp; try (with_reducible rfl))))
              (try simp only [Act.put, List.setIfInBounds_toArray, List.set_cons_zero, List.set_cons_succ])
              (refine wpAnyT_take (i := 7) (oi := ?_) (v := ?_) ?_ (by as_aux_lemma => kernel_rfl) (by as_aux_lemma => kernel_rfl) (by as_aux_lemma => kernel_rfl) (by as_aux_lemma => kernel_rfl) ?_ (Or.inl ⟨?_, ?_⟩) HS.out ?_; rotate_left 2; (focus (simp only [List.getElem?_toArray, List.getElem?_cons_succ, List.getElem?_cons_zero] <;> rfl)); (focus exact (fun _ _ _ h => h)); (focus rfl); (focus (intro w hSw; (try dsimp only at hSw); go_simp; try (with_reducible rfl))))
              (try simp only [Act.put, List.setIfInBounds_toArray, List.set_cons_zero, List.set_cons_succ])
              (refine wpAnyT_take (i := 8) (oi := ?_) (v := ?_) ?_ (by as_aux_lemma => kernel_rfl) (by as_aux_lemma => kernel_rfl) (by as_aux_lemma => kernel_rfl) (by as_aux_lemma => kernel_rfl) ?_ (Or.inl ⟨?_, ?_⟩) HS.out ?_; rotate_left 2; (focus (simp only [List.getElem?_toArray, List.getElem?_cons_succ, List.getElem?_cons_zero] <;> rfl)); (focus exact (fun _ _ _ h => h)); (focus rfl); (focus (intro w hSw; (try dsimp only at hSw); go_simp; try (with_reducible rfl))))
              (try simp only [Act.put, List.setIfInBounds_toArray, List.set_cons_zero, List.set_cons_succ])
              (refine wpAnyT_take (i := 9) (oi := ?_) (v := ?_) ?_ (by as_aux_lemma => kernel_rfl) (by as_aux_lemma => kernel_rfl) (by as_aux_lemma => kernel_rfl) (by as_aux_lemma => kernel_rfl) ?_ (Or.inl ⟨?_, ?_⟩) HS.out ?_; rotate_left 2; (focus (simp only [List.getElem?_toArray, List.getElem?_cons_succ, List.getElem?_cons_zero] <;> rfl)); (focus exact (fun _ _ _ h => h)); (focus rfl); (focus (intro w hSw; (try dsimp only at hSw); go_simp; try (with_reducible rfl))))
              (try simp only [Act.put, List.setIfInBounds_toArray, List.set_cons_zero, List.set_cons_succ])
              (refine wpAnyT_take (i := 10) (oi := ?_) (v := ?_) ?_ (by as_aux_lemma => kernel_rfl) (by as_aux_lemma => kernel_rfl) (by as_aux_lemma => kernel_rfl) (by as_aux_lemma => kernel_rfl) ?_ (Or.inl ⟨?_, ?_⟩) HS.out ?_; rotate_left 2; (focus (simp only [List.getElem?_toArray, List.getElem?_cons_succ, List.getElem?_cons_zero] <;> rfl)); (focus exact (fun _ _ _ h => h)); (focus rfl); (focus (intro w hSw; (try dsimp only at hSw); go_simp; try (with_reducible rfl))))
              (try simp only [Act.put, List.setIfInBounds_toArray, List.set_cons_zero, List.set_cons_succ])
              (refine wpAnyT_take (i := 11) (oi := ?_) (v := ?_) ?_ (by as_aux_lemma => kernel_rfl) (by as_aux_lemma => kernel_rfl) (by as_aux_lemma => kernel_rfl) (by as_aux_lemma => kernel_rfl) ?_ (Or.inl ⟨?_, ?_⟩) HS.out ?_; rotate_left 2; (focus (simp only [List.getElem?_toArray, List.getElem?_cons_succ, List.getElem?_cons_zero] <;> rfl)); (focus exact (fun _ _ _ h => h)); (focus rfl); (focus (intro w hSw; (try dsimp only at hSw); go_simp; try (with_reducible rfl))))
              (try simp only [Act.put, List.setIfInBounds_toArray, List.set_cons_zero, List.set_cons_succ])
              (refine wpAnyT_take (i := 12) (oi := ?_) (v := ?_) ?_ (by as_aux_lemma => kernel_rfl) (by as_aux_lemma => kernel_rfl) (by as_aux_lemma => kernel_rfl) (by as_aux_lemma => kernel_rfl) ?_ (Or.inl ⟨?_, ?_⟩) HS.out ?_; rotate_left 2; (focus (simp only [List.getElem?_toArray, List.getElem?_cons_succ, List.getElem?_cons_zero] <;> rfl)); (focus exact (fun _ _ _ h => h)); (focus rfl); (focus (intro w hSw; (try dsimp only at hSw); go_simp; try (with_reducible rfl))))
              (try simp only [Act.put, List.setIfInBounds_toArray, List.set_cons_zero, List.set_cons_succ])
              (refine wpAnyT_take (i := 13) (oi := ?_) (v := ?_) ?_ (by as_aux_lemma => kernel_rfl) (by as_aux_lemma => kernel_rfl) (by as_aux_lemma => kernel_rfl) (by as_aux_lemma => kernel_rfl) ?_ (Or.inl ⟨?_, ?_⟩) HS.out ?_; rotate_left 2; (focus (simp only [List.getElem?_toArray, List.getElem?_cons_succ, List.getElem?_cons_zero] <;> rfl)); (focus exact (fun _ _ _ h => h)); (focus rfl); (focus (intro w hSw; (try dsimp only at hSw); go_simp; try (with_reducible rfl))))
              (try simp only [Act.put, List.setIfInBounds_toArray, List.set_cons_zero, List.set_cons_succ])
              (refine wpAnyT_one (i := 14) (oi := ?_) ?_ (by as_aux_lemma => kernel_rfl) (fun K hK => ?_); rotate_left; (focus (simp only [List.getElem?_toArray, List.getElem?_cons_succ, List.getElem?_cons_zero] <;> rfl)))
              go_simp
              go_at_call 14
              with_reducible refine (pops_any HM7'.out).mono ?_
              rintro e w8 ⟨v8, rfl, ho8, hb8⟩
              rw [← HSL.out] at ho8
              obtain ⟨a8, c8, rfl, _⟩ := owns_shape ho8
              have HM8 := Lib.hid (HM7'.out.below hb8)
              have HB8 := Lib.hid (HB7'.out.trans (hb8.mono HB7'.out.size))
              have HS8 := Lib.hid (show (fun W => W.cell? ⟨hb, ho + P, none⟩ = some (.int .i64 (sl : Int))) w8 from late5 HS.out hb8)
              clear ho8 hb8
              try go_wp2_with fail
              refine hK.out _ _ HS8.out ?_
              clear hK K
              (try simp only [Act.put, List.setIfInBounds_toArray, List.set_cons_zero, List.set_cons_succ])
              (refine wpAnyT_take (i := 15) (oi := ?_) (v := ?_) ?_ (by as_aux_lemma => kernel_rfl) (by as_aux_lemma => kernel_rfl) (by as_aux_lemma => kernel_rfl) (by as_aux_lemma => kernel_rfl) ?_ (Or.inl ⟨?_, ?_⟩) HS8.out ?_; rotate_left 2; (focus (simp only [List.getElem?_toArray, List.getElem?_cons_succ, List.getElem?_cons_zero] <;> rfl)); (focus exact (fun _ _ _ h => h)); (focus rfl); (focus (intro w hSw; (try dsimp only at hSw); go_simp; try (with_reducible rfl))))
              (try simp only [Act.put, List.setIfInBounds_toArray, List.set_cons_zero, List.set_cons_succ])
              (refine wpAnyT_take (i := 16) (oi := ?_) (v := ?_) ?_ (by as_aux_lemma => kernel_rfl) (by as_aux_lemma => kernel_rfl) (by as_aux_lemma => kernel_rfl) (by as_aux_lemma => kernel_rfl) ?_ (Or.inl ⟨?_, ?_⟩) HS8.out ?_; rotate_left 2; (focus (simp only [List.getElem?_toArray, List.getElem?_cons_succ, List.getElem?_cons_zero] <;> rfl)); (focus exact (fun _ _ _ h => h)); (focus rfl); (focus (intro w hSw; (try dsimp only at hSw); go_simp; try (with_reducible rfl))))
              (try simp only [Act.put, List.setIfInBounds_toArray, List.set_cons_zero, List.set_cons_succ])
              (refine wpAnyT_late (i := 17) (oi := ?_) ?_ (by as_aux_lemma => kernel_rfl) (by as_aux_lemma => kernel_rfl) (fun K hK => ?_); rotate_left; (focus (simp only [List.getElem?_toArray, List.getElem?_cons_succ, List.getElem?_cons_zero] <;> rfl)))
              go_simp
              refine hK.out _ _ ?_
              clear hK K
              refine wpAnyT_done (by as_aux_lemma => kernel_rfl) ?_ _
              have hS := pstep_any HM8.out (by omega)
              have HSS := Lib.hid hS
              clear hS
              go_wp2_with fail
              refine HSS.out.mono ?_
              rintro e w9 ⟨he, F9, iv9, sv9, kv9, ov9, hM9, _, hmv9⟩
              rw [HFIN.out] at he
              have he' : e = .returned (.bool true) := he
              subst he'
              have HM9 := Lib.hid hM9
              have HB9 := Lib.hid (HB8.out.trans (HM8.out.fr_below (Nat.le_refl _) hmv9))
              clear hM9 hmv9 he
              go_wp2_with fail
              go_roundw
              case rel => exact ⟨t + 1, F9, iv9, sv9, kv9, ov9, by omega, by go_num, by rw [HST.out]; exact HM9.out, HB9.out⟩
              case measure => simp [intOf]; omega
            · have hfb : (st.fin == 0) = false := by simp; exact hfin
              have hfb2 : (st.fin != 0) = true := by simp; exact hfin
              obtain ⟨fin, hfe⟩ : ∃ f, f = st.fin := ⟨_, rfl⟩
              rw [← hfe] at hR hfb hfb2
              have HR := Lib.hid hR
              clear hR
              clear hfin hfe
              go_wp2_with fail
              refine HR.out.mono ?_; rintro e w6 ⟨v6, rfl, ho6, hb6⟩
              obtain ⟨a6, c6, rfl, _⟩ := owns_shape ho6
              have HB6 := Lib.hid (HB2.out.trans ((HBW.out.trans (hb6.mono HBW.out.size)).mono HB2.out.size))
              clear ho6 hb6
              go_wp2_with fail
              go_ret
              exact ⟨by simp, HB6.out.alloc HB6.out.size _⟩
          · have HBE := Lib.hid (HB2.out.trans (HBW.out.mono HB2.out.size))
            go_wp2_with fail
            go_ret
            exact ⟨by simp, HBE.out⟩
      · go_wp2_with fail
        go_ret
        exact ⟨rfl, HB2.out⟩
end Go.Proofs.Ytgkdphnhfjjepaa
