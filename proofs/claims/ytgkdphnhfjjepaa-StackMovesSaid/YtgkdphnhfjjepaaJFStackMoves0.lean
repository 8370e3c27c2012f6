/- The walks and the plain lemmas of the statement, joined: part 8. No condition. -/
import Derived.Test.YtgkdphnhfjjepaaJStk427
import Derived.Test.YtgkdphnhfjjepaaJStk424
import Derived.Test.YtgkdphnhfjjepaaJStk420

/- StackMoves, StackFrames: steps by what stands at a place; the code that stores a list, and moves words of it (plain). -/
namespace Go.Proofs.Ytgkdphnhfjjepaa
open Go.RowKit Go.Waf
set_option maxRecDepth 100000
set_option linter.unusedVariables false
set_option linter.unusedSimpArgs false

theorem step_of {s : SSt} {op k : Int} (hf : s.fin = 0) (h0 : 0 ≤ s.pc) (h1 : s.pc < s.code.length) (hat : s.code.getD s.pc.toNat (0, 0) = (op, k)) (hg : goodC (op, k) = true) : s.step = (s.next.exec op k).getD s.fault := by
  unfold SSt.step
  rw [if_pos hf]
  unfold SSt.step1 SSt.try1
  have e : s.at' = (op, k) := hat
  rw [if_pos ⟨h0, h1⟩, e, if_pos hg]
theorem step_push {s : SSt} {k : Int} (hf : s.fin = 0) (h0 : 0 ≤ s.pc) (h1 : s.pc < s.code.length) (hat : s.code.getD s.pc.toNat (0, 0) = (1, k)) (hl : s.st.length < 1000) : s.step = { s with st := k :: s.st, pc := s.pc + 1 } := by
  rw [step_of hf h0 h1 hat (by simp [goodC, hasK])]
  have e : s.next.exec 1 k = s.next.lay k := rfl
  rw [e, lay_some (s := s.next) hl]; rfl
theorem step_store {s : SSt} {x p : Int} {t : List Int} (hf : s.fin = 0) (h0 : 0 ≤ s.pc) (h1 : s.pc < s.code.length) (hat : s.code.getD s.pc.toNat (0, 0) = (7, 0)) (hst : s.st = x :: p :: t) (hok : okAt s p 1) : s.step = { s with st := t, mem := s.mem.set p.toNat x, pc := s.pc + 1 } := by
  rw [step_of hf h0 h1 hat (by simp [goodC, hasK])]
  have e : s.next.exec 7 0 = (match s.next.st with | x :: p :: t => (if okAt s.next p 1 then some { s.next with st := t, mem := s.next.mem.set p.toNat x } else none) | _ => none) := rfl
  rw [e, show s.next.st = x :: p :: t from hst]
  simp only
  rw [if_pos (show okAt s.next p 1 from hok)]; rfl
theorem step_move {s : SSt} {q p k : Int} {t : List Int} (hf : s.fin = 0) (h0 : 0 ≤ s.pc) (h1 : s.pc < s.code.length) (hat : s.code.getD s.pc.toNat (0, 0) = (8, k)) (hst : s.st = q :: p :: t) :
    s.step = if okAt s q k ∧ okAt s p k then { s with st := t, mem := s.mem.take p.toNat ++ (s.mem.drop q.toNat).take k.toNat ++ s.mem.drop (p.toNat + k.toNat), pc := s.pc + 1 } else s.fault := by
  rw [step_of hf h0 h1 hat (by simp [goodC, hasK])]
  have e : s.next.exec 8 k = (match s.next.st with | q :: p :: t => (if okAt s.next q k ∧ okAt s.next p k then some { s.next with st := t, mem := s.next.mem.take p.toNat ++ (s.next.mem.drop q.toNat).take k.toNat ++ s.next.mem.drop (p.toNat + k.toNat) } else none) | _ => none) := rfl
  rw [e, show s.next.st = q :: p :: t from hst]
  simp only
  by_cases h : okAt s q k ∧ okAt s p k
  · rw [if_pos h, if_pos (show okAt s.next q k ∧ okAt s.next p k from h)]; rfl
  · rw [if_neg h, if_neg (show ¬ (okAt s.next q k ∧ okAt s.next p k) from h)]; rfl
theorem step_halt {s : SSt} (hf : s.fin = 0) (h0 : 0 ≤ s.pc) (h1 : s.pc < s.code.length) (hat : s.code.getD s.pc.toNat (0, 0) = (0, 0)) : s.step = { s with fin := 1 } := by
  rw [step_of hf h0 h1 hat (by simp [goodC, hasK])]
  show { s with fin := 1, pc := s.pc + 1 - 1 } = _
  rw [Int.add_sub_cancel]

/-- The code that stores a list's numbers, so many of them. -/
def stores (xs : List Int) : Nat → List (Int × Int)
  | 0 => []
  | j + 1 => stores xs j ++ [(1, (j : Int)), (1, xs.getD j 0), (7, 0)]
theorem stores_length (xs : List Int) : ∀ j, (stores xs j).length = 3 * j
  | 0 => rfl
  | j + 1 => by rw [stores, List.length_append, stores_length xs j]; simp; omega
theorem stores_getD (xs : List Int) : ∀ (n i : Nat) (l : List (Int × Int)), i < n → (stores xs n ++ l).getD (3 * i) (0, 0) = (1, (i : Int)) ∧ (stores xs n ++ l).getD (3 * i + 1) (0, 0) = (1, xs.getD i 0) ∧ (stores xs n ++ l).getD (3 * i + 2) (0, 0) = (7, 0)
  | 0, i, l, h => by omega
  | n + 1, i, l, h => by
    rw [stores, List.append_assoc]
    by_cases hi : i < n
    · exact stores_getD xs n i _ hi
    · obtain rfl : i = n := by omega
      have hl := stores_length xs i
      refine ⟨?_, ?_, ?_⟩
      · rw [List.getD_eq_getElem?_getD, List.getElem?_append_right (by omega), hl, Nat.sub_self]; rfl
      · rw [List.getD_eq_getElem?_getD, List.getElem?_append_right (by omega), hl, show 3 * i + 1 - 3 * i = 1 by omega]; rfl
      · rw [List.getD_eq_getElem?_getD, List.getElem?_append_right (by omega), hl, show 3 * i + 2 - 3 * i = 2 by omega]; rfl
def mcode (xs : List Int) (p q k : Int) : List (Int × Int) := stores xs xs.length ++ [(1, p), (1, q), (8, k), (0, 0)]
theorem mcode_length (xs : List Int) (p q k : Int) : (mcode xs p q k).length = 3 * xs.length + 4 := by rw [mcode, List.length_append, stores_length]; rfl
def mst (xs : List Int) (p q k : Int) (mem : List Int) (st : List Int) (pc : Int) : SSt := ⟨mcode xs p q k, mem, [], st, 0, 0, [], pc, [], 0, 0⟩
def laid (xs : List Int) (j : Nat) : List Int := xs.take j ++ List.replicate (xs.length - j) 0
theorem laid_length (xs : List Int) (j : Nat) (h : j ≤ xs.length) : (laid xs j).length = xs.length := by simp [laid]; omega
theorem laid_set (xs : List Int) (j : Nat) (h : j < xs.length) : (laid xs j).set j (xs.getD j 0) = laid xs (j + 1) := by
  unfold laid
  have hl : (xs.take j).length = j := by simp; omega
  rw [List.set_append_right _ _ (by omega), hl, Nat.sub_self, show xs.length - j = (xs.length - (j + 1)) + 1 by omega, List.replicate_succ, List.set_cons_zero, List.take_succ_eq_append_getElem h, List.append_assoc]
  congr 2
  simp [h]
theorem mst_three (xs : List Int) (p q k : Int) (j : Nat) (h : j < xs.length) : (mst xs p q k (laid xs j) [] ((3 * j : Nat) : Int)).stepN 3 = mst xs p q k (laid xs (j + 1)) [] ((3 * (j + 1) : Nat) : Int) := by
  obtain ⟨g0, g1, g2⟩ := stores_getD xs xs.length j [(1, p), (1, q), (8, k), (0, 0)] h
  have hl := mcode_length xs p q k
  have s1 : (mst xs p q k (laid xs j) [] ((3 * j : Nat) : Int)).step = mst xs p q k (laid xs j) [(j : Int)] ((3 * j + 1 : Nat) : Int) := by
    rw [step_push (k := (j : Int)) rfl (by show (0 : Int) ≤ ((3 * j : Nat) : Int); omega) (by show ((3 * j : Nat) : Int) < ((mcode xs p q k).length : Int); omega) g0 (by show (0 : Nat) < 1000; decide)]
    rfl
  have s2 : (mst xs p q k (laid xs j) [(j : Int)] ((3 * j + 1 : Nat) : Int)).step = mst xs p q k (laid xs j) [xs.getD j 0, (j : Int)] ((3 * j + 2 : Nat) : Int) := by
    rw [step_push (k := xs.getD j 0) rfl (by show (0 : Int) ≤ ((3 * j + 1 : Nat) : Int); omega) (by show ((3 * j + 1 : Nat) : Int) < ((mcode xs p q k).length : Int); omega) g1 (by show (1 : Nat) < 1000; decide)]
    rfl
  have s3 : (mst xs p q k (laid xs j) [xs.getD j 0, (j : Int)] ((3 * j + 2 : Nat) : Int)).step = mst xs p q k (laid xs (j + 1)) [] ((3 * (j + 1) : Nat) : Int) := by
    rw [step_store (x := xs.getD j 0) (p := (j : Int)) (t := []) rfl (by show (0 : Int) ≤ ((3 * j + 2 : Nat) : Int); omega) (by show ((3 * j + 2 : Nat) : Int) < ((mcode xs p q k).length : Int); omega) g2 rfl ⟨by omega, by omega, by show (1 : Int) ≤ ((laid xs j).length : Int) - j; rw [laid_length xs j (by omega)]; omega⟩]
    show ({ mst xs p q k ((laid xs j).set (j : Int).toNat (xs.getD j 0)) [] (((3 * j + 2 : Nat) : Int) + 1) with fin := 0 } : SSt) = _
    rw [Int.toNat_natCast, laid_set xs j h]
    rfl
  show ((mst xs p q k (laid xs j) [] ((3 * j : Nat) : Int)).step.step).step = _
  rw [s1, s2, s3]
theorem mst_all (xs : List Int) (p q k : Int) : ∀ j, j ≤ xs.length → (mst xs p q k (laid xs 0) [] 0).stepN (3 * j) = mst xs p q k (laid xs j) [] ((3 * j : Nat) : Int)
  | 0, _ => rfl
  | j + 1, h => by rw [show 3 * (j + 1) = 3 * j + 3 by omega, SSt.stepN_add, mst_all xs p q k j (by omega), mst_three xs p q k j (by omega)]; rfl
theorem laid_all (xs : List Int) : laid xs xs.length = xs := by simp [laid]
theorem mcode_last (xs : List Int) (p q k : Int) : (mcode xs p q k).getD (3 * xs.length) (0, 0) = (1, p) ∧ (mcode xs p q k).getD (3 * xs.length + 1) (0, 0) = (1, q) ∧ (mcode xs p q k).getD (3 * xs.length + 2) (0, 0) = (8, k) ∧ (mcode xs p q k).getD (3 * xs.length + 3) (0, 0) = (0, 0) := by
  have hl := stores_length xs xs.length
  unfold mcode
  refine ⟨?_, ?_, ?_, ?_⟩
  · rw [List.getD_eq_getElem?_getD, List.getElem?_append_right (by omega), hl, Nat.sub_self]; rfl
  · rw [List.getD_eq_getElem?_getD, List.getElem?_append_right (by omega), hl, show 3 * xs.length + 1 - 3 * xs.length = 1 by omega]; rfl
  · rw [List.getD_eq_getElem?_getD, List.getElem?_append_right (by omega), hl, show 3 * xs.length + 2 - 3 * xs.length = 2 by omega]; rfl
  · rw [List.getD_eq_getElem?_getD, List.getElem?_append_right (by omega), hl, show 3 * xs.length + 3 - 3 * xs.length = 3 by omega]; rfl
/-- What it comes to. -/
theorem mst_end (xs : List Int) (p q k : Nat) : (mst xs p q k (laid xs 0) [] 0).stepN (3 * xs.length + 4) =
    if q + k ≤ xs.length ∧ p + k ≤ xs.length then { mst xs p q k (splice xs p ((xs.drop q).take k)) [] ((3 * xs.length + 3 : Nat) : Int) with fin := 1 } else (mst xs p q k xs [(q : Int), (p : Int)] ((3 * xs.length + 2 : Nat) : Int)).fault := by
  obtain ⟨g0, g1, g2, g3⟩ := mcode_last xs p q k
  have hl := mcode_length xs p q k
  rw [SSt.stepN_add, mst_all xs p q k xs.length (Nat.le_refl _), laid_all]
  have s1 : (mst xs p q k xs [] ((3 * xs.length : Nat) : Int)).step = mst xs p q k xs [(p : Int)] ((3 * xs.length + 1 : Nat) : Int) := by
    rw [step_push (k := (p : Int)) rfl (by show (0 : Int) ≤ ((3 * xs.length : Nat) : Int); omega) (by show ((3 * xs.length : Nat) : Int) < ((mcode xs p q k).length : Int); omega) g0 (by show (0 : Nat) < 1000; decide)]
    rfl
  have s2 : (mst xs p q k xs [(p : Int)] ((3 * xs.length + 1 : Nat) : Int)).step = mst xs p q k xs [(q : Int), (p : Int)] ((3 * xs.length + 2 : Nat) : Int) := by
    rw [step_push (k := (q : Int)) rfl (by show (0 : Int) ≤ ((3 * xs.length + 1 : Nat) : Int); omega) (by show ((3 * xs.length + 1 : Nat) : Int) < ((mcode xs p q k).length : Int); omega) g1 (by show (1 : Nat) < 1000; decide)]
    rfl
  have s3 := step_move (s := mst xs p q k xs [(q : Int), (p : Int)] ((3 * xs.length + 2 : Nat) : Int)) (q := (q : Int)) (p := (p : Int)) (k := (k : Int)) (t := []) rfl (by show (0 : Int) ≤ ((3 * xs.length + 2 : Nat) : Int); omega) (by show ((3 * xs.length + 2 : Nat) : Int) < ((mcode xs p q k).length : Int); omega) g2 rfl
  show ((mst xs p q k xs [] ((3 * xs.length : Nat) : Int)).step.step.step).step = _
  rw [s1, s2, s3]
  by_cases hok : q + k ≤ xs.length ∧ p + k ≤ xs.length
  · have h1 : okAt (mst xs p q k xs [(q : Int), (p : Int)] ((3 * xs.length + 2 : Nat) : Int)) (q : Int) (k : Int) ∧ okAt (mst xs p q k xs [(q : Int), (p : Int)] ((3 * xs.length + 2 : Nat) : Int)) (p : Int) (k : Int) :=
      ⟨⟨by omega, by omega, by show (k : Int) ≤ (xs.length : Int) - q; omega⟩, ⟨by omega, by omega, by show (k : Int) ≤ (xs.length : Int) - p; omega⟩⟩
    rw [if_pos h1, if_pos hok]
    have e : ({ mst xs p q k xs [(q : Int), (p : Int)] ((3 * xs.length + 2 : Nat) : Int) with st := [], mem := (mst xs p q k xs [(q : Int), (p : Int)] ((3 * xs.length + 2 : Nat) : Int)).mem.take (p : Int).toNat ++ ((mst xs p q k xs [(q : Int), (p : Int)] ((3 * xs.length + 2 : Nat) : Int)).mem.drop (q : Int).toNat).take (k : Int).toNat ++ (mst xs p q k xs [(q : Int), (p : Int)] ((3 * xs.length + 2 : Nat) : Int)).mem.drop ((p : Int).toNat + (k : Int).toNat), pc := (mst xs p q k xs [(q : Int), (p : Int)] ((3 * xs.length + 2 : Nat) : Int)).pc + 1 } : SSt) = mst xs p q k (splice xs p ((xs.drop q).take k)) [] ((3 * xs.length + 3 : Nat) : Int) := by
      rw [splice_flat, List.length_take, List.length_drop, Nat.min_eq_left (by omega)]
      simp only [Int.toNat_natCast]
      rfl
    rw [e, step_halt rfl (by show (0 : Int) ≤ ((3 * xs.length + 3 : Nat) : Int); omega) (by show ((3 * xs.length + 3 : Nat) : Int) < ((mcode xs p q k).length : Int); omega) g3]
  · have h1 : ¬ (okAt (mst xs p q k xs [(q : Int), (p : Int)] ((3 * xs.length + 2 : Nat) : Int)) (q : Int) (k : Int) ∧ okAt (mst xs p q k xs [(q : Int), (p : Int)] ((3 * xs.length + 2 : Nat) : Int)) (p : Int) (k : Int)) := by
      rintro ⟨⟨_, _, a⟩, ⟨_, _, b⟩⟩
      have a' : (k : Int) ≤ (xs.length : Int) - q := a
      have b' : (k : Int) ≤ (xs.length : Int) - p := b
      omega
    rw [if_neg h1, if_neg hok]
    exact step_stop (by show (2 : Int) ≠ 0; decide)
theorem mst_new (xs : List Int) (p q k : Int) : SSt.new (mcode xs p q k) xs.length 0 [] = mst xs p q k (laid xs 0) [] 0 := by
  unfold SSt.new mst laid zeros
  simp
theorem mcode_ok {xs : List Int} {p q k : Int} (hx : ∀ x ∈ xs, I32 x) (hl : xs.length ≤ 1000) (hp : I32 p) (hq : I32 q) (hk : I32 k) : CodeOk (mcode xs p q k) := by
  have hz : I32 0 := by unfold I32; omega
  have hs : ∀ n, n ≤ xs.length → CodeOk (stores xs n) := by
    intro n
    induction n with
    | zero => intro _ c hc; cases hc
    | succ n ih =>
      intro hn c hc
      rcases List.mem_append.1 hc with h | h
      · exact ih (by omega) c h
      · simp only [List.mem_cons, List.not_mem_nil, or_false] at h
        rcases h with rfl | rfl | rfl
        · exact ⟨by show (-9223372036854775808 : Int) ≤ 1; decide, by show (1 : Int) ≤ 9223372036854775807; decide, by unfold I32; show -2147483648 ≤ (n : Int) ∧ (n : Int) ≤ 2147483647; omega⟩
        · exact ⟨by show (-9223372036854775808 : Int) ≤ 1; decide, by show (1 : Int) ≤ 9223372036854775807; decide, hx _ (by rw [List.getD_eq_getElem?_getD, List.getElem?_eq_getElem (by omega)]; simp)⟩
        · exact ⟨by decide, by decide, hz⟩
  intro c hc
  rcases List.mem_append.1 hc with h | h
  · exact hs _ (Nat.le_refl _) c h
  · simp only [List.mem_cons, List.not_mem_nil, or_false] at h
    rcases h with rfl | rfl | rfl | rfl
    · exact ⟨by show (-9223372036854775808 : Int) ≤ 1; decide, by show (1 : Int) ≤ 9223372036854775807; decide, hp⟩
    · exact ⟨by show (-9223372036854775808 : Int) ≤ 1; decide, by show (1 : Int) ≤ 9223372036854775807; decide, hq⟩
    · exact ⟨by show (-9223372036854775808 : Int) ≤ 8; decide, by show (8 : Int) ≤ 9223372036854775807; decide, hk⟩
    · exact ⟨by decide, by decide, hz⟩
theorem codeCells_append (a b : List (Int × Int)) : codeCells (a ++ b) = codeCells a ++ codeCells b := by simp [codeCells]
end Go.Proofs.Ytgkdphnhfjjepaa

/- The contract of StackMoves (printed by gen_stk49.py). -/
namespace Go.Proofs.Ytgkdphnhfjjepaa
open Go.RowKit Go.Waf
set_option maxRecDepth 100000
set_option linter.unusedVariables false
set_option linter.unusedSimpArgs false

theorem i32_of_row {w : World} {a : Option Addr} {len cap : Nat} {zs : List Int} (h : RowOf .i32 w a len cap zs) : ∀ x ∈ zs.take len, I32 x := fun x hx => rng_i32 (h.wf x hx)
/-- copy of nothing, as one step of a region. -/
theorem step_copy_none {P : Program} {ops : Array Oper} {o : Oper} {a : Act} {w : World} {K : Act → World → Prop} {Q : Exit → Act → World → Prop} {E : Prop} (hgd : o.guard = none) (d s : Operand) (dT sT : TypeId)
    (ho : o.op = .call { callee := .builtin .copy, args := #[d, s], argTypes := #[dT, sT] }) (elem : TypeId) (hu : P.underlying dT = some (.slice elem)) (hsz : (P.info? elem).map (·.size) = some 1)
    (dp sp : Option Addr) (dLen dCap sLen sCap : Nat) (hd : a.eval d = .slice dp dLen dCap) (hs : a.eval s = .slice sp sLen sCap) (hn : Nat.min sLen dLen = 0)
    (h : K (a.put o.dst (goInt 0)) w) : if Region.wanted o (yielded ops a.tmps) = true then Oper.wp P o a w K Q else E := by
  have hw : Region.wanted o (yielded ops a.tmps) = true := by simp [Region.wanted, hgd]
  rw [if_pos hw]
  have hrun := run_copy_none (P := P) w dT sT o.type elem dp sp dLen dCap sLen sCap hu hsz hn
  unfold Oper.wp
  simp [execOp, ho, resolve, invoke, builtin, hd, hs, hrun, Result.andThen]
  exact h
set_option maxHeartbeats 6400000 in
theorem stackMoves_any (a0 : Option Addr) (len0 cap0 : Nat) (z0 : List Int) (fr tt nn : Int) (w : World) (w0 : RowOf .i32 w a0 len0 cap0 z0) (w1 : (Lit.int .u8 fr).wf = true) (w2 : (Lit.int .u8 tt).wf = true) (w3 : (Lit.int .u8 nn).wf = true) :
    Calls Try.prog 6 #[.slice a0 len0 cap0, .int .u8 fr, .int .u8 tt, .int .u8 nn] w fun e w' => e = .returned (.bool true) ∧ Below w.heap.size w w' := by
  obtain ⟨f0, f1⟩ := rng_u8 w1
  obtain ⟨t0, t1⟩ := rng_u8 w2
  obtain ⟨n0, n1⟩ := rng_u8 w3
  obtain ⟨l0, l1⟩ := w0.bounds
  have KN := Lib.hid (fun W => known_any W)
  by_cases hbig : 20 < len0
  · clear w0 w1 w2 w3
    go_enter Try.func6, Try.ntmps6
    go_wp2_with (go_at_call 11; refine (KN.out _).mono ?_; rintro e w1 ⟨rfl, hb1⟩)
    go_ret
    exact ⟨rfl, hb1⟩
  have rd := w0.rd
  have hx := i32_of_row w0
  have hxl := w0.len
  obtain ⟨xs, hxs⟩ : ∃ c, c = z0.take len0 := ⟨_, rfl⟩
  rw [← hxs] at rd hx hxl
  have rd' : Rd w 1 (.slice a0 len0 cap0) len0 (i32s xs) := rd
  have RDX := Lib.hid rd'
  have HX := Lib.hid hx
  have HXL := Lib.hid hxl
  have hl20 : len0 ≤ 20 := by omega
  obtain ⟨p, hp⟩ := Int.eq_ofNat_of_zero_le (show 0 ≤ tt % ((len0 : Int) + 3) from Int.emod_nonneg _ (by omega))
  obtain ⟨q, hq⟩ := Int.eq_ofNat_of_zero_le (show 0 ≤ fr % ((len0 : Int) + 3) from Int.emod_nonneg _ (by omega))
  obtain ⟨k, hk⟩ := Int.eq_ofNat_of_zero_le (show 0 ≤ nn % ((len0 : Int) + 3) from Int.emod_nonneg _ (by omega))
  have hpl : (p : Int) < (len0 : Int) + 3 := by rw [← hp]; exact Int.emod_lt_of_pos _ (by omega)
  have hql : (q : Int) < (len0 : Int) + 3 := by rw [← hq]; exact Int.emod_lt_of_pos _ (by omega)
  have hkl : (k : Int) < (len0 : Int) + 3 := by rw [← hk]; exact Int.emod_lt_of_pos _ (by omega)
  have ep : tt.tmod ((len0 : Int) + 3) = p := by rw [Int.tmod_eq_emod_of_nonneg t0]; exact hp
  have eq' : fr.tmod ((len0 : Int) + 3) = q := by rw [Int.tmod_eq_emod_of_nonneg f0]; exact hq
  have ek : nn.tmod ((len0 : Int) + 3) = k := by rw [Int.tmod_eq_emod_of_nonneg n0]; exact hk
  have ip : IntKind.i32.wrap (p : Int) = p := IntWalk.i32_in _ (by omega)
  have iq : IntKind.i32.wrap (q : Int) = q := IntWalk.i32_in _ (by omega)
  have ik : IntKind.i32.wrap (k : Int) = k := IntWalk.i32_in _ (by omega)
  have jt : IntKind.i64.wrap tt = tt := IntWalk.i64_in _ (by omega)
  have jf : IntKind.i64.wrap fr = fr := IntWalk.i64_in _ (by omega)
  have jn : IntKind.i64.wrap nn = nn := IntWalk.i64_in _ (by omega)
  have s3 : IntKind.i64.wrap ((len0 : Int) + 3) = (len0 : Int) + 3 := IntWalk.i64_in _ (by omega)
  have hz3 : ((len0 : Int) + 3 == 0) = false := by simp; omega
  have hz4 : ¬ ((len0 : Int) + 3 = 0) := by omega
  have hd20 : decide (20 < (len0 : Int)) = false := by simp; omega
  have END := Lib.hid (mst_end xs p q k)
  have HCO := Lib.hid (mcode_ok (p := (p : Int)) (q := (q : Int)) (k := (k : Int)) hx (by omega) (by unfold I32; omega) (by unfold I32; omega) (by unfold I32; omega))
  clear w0 w1 w2 w3 rd hx hxs hp hq hk rd' hxl
  go_enter Try.func6, Try.ntmps6
  go_wp2_with (go_at_call 11; refine (KN.out _).mono ?_; rintro e wc ⟨rfl, hbc⟩; have HBC := Lib.hid hbc; clear hbc)
  have HS := Lib.hid (show (fun _ : World => True) wc.drew from trivial)
  refine wp_region_till 14 (fun _ => True) (by as_aux_lemma => kernel_rfl) ?_
  (refine wpAnyT_take (i := 0) (oi := ?_) (v := ?_) ?_ (by as_aux_lemma => kernel_rfl) (by as_aux_lemma => kernel_rfl) (by as_aux_lemma => kernel_rfl) (by as_aux_lemma => kernel_rfl) ?_ (Or.inl ⟨?_, ?_⟩) HS.out ?_; rotate_left 2; (focus (simp only [List.getElem?_toArray, List.getElem?_cons_succ, List.getElem?_cons_zero] <;> rfl)); (focus exact (fun _ _ _ h => h)); (focus rfl); (focus (intro w hSw; (try dsimp only at hSw); go_simp; try (with_reducible rfl))))
  (try simp only [Act.put, List.setIfInBounds_toArray, List.set_cons_zero, List.set_cons_succ])
  (refine wpAnyT_take (i := 1) (oi := ?_) (v := ?_) ?_ (by as_aux_lemma => kernel_rfl) (by as_aux_lemma => kernel_rfl) (by as_aux_lemma => kernel_rfl) (by as_aux_lemma => kernel_rfl) ?_ (Or.inl ⟨?_, ?_⟩) HS.out ?_; rotate_left 2; (focus (simp only [List.getElem?_toArray, List.getElem?_cons_succ, List.getElem?_cons_zero] <;> rfl)); (focus exact (fun _ _ _ h => h)); (focus rfl); (focus (intro w hSw; (try dsimp only at hSw); go_simp; try (with_reducible rfl))))
  (try simp only [Act.put, List.setIfInBounds_toArray, List.set_cons_zero, List.set_cons_succ])
  (refine wpAnyT_take (i := 2) (oi := ?_) (v := ?_) ?_ (by as_aux_lemma => kernel_rfl) (by as_aux_lemma => kernel_rfl) (by as_aux_lemma => kernel_rfl) (by as_aux_lemma => kernel_rfl) ?_ (Or.inl ⟨?_, ?_⟩) HS.out ?_; rotate_left 2; (focus (simp only [List.getElem?_toArray, List.getElem?_cons_succ, List.getElem?_cons_zero] <;> rfl)); (focus exact (fun _ _ _ h => h)); (focus rfl); (focus (intro w hSw; (try dsimp only at hSw); go_simp; try (with_reducible rfl))))
  (try simp only [Act.put, List.setIfInBounds_toArray, List.set_cons_zero, List.set_cons_succ])
  (refine wpAnyT_take (i := 3) (oi := ?_) (v := ?_) ?_ (by as_aux_lemma => kernel_rfl) (by as_aux_lemma => kernel_rfl) (by as_aux_lemma => kernel_rfl) (by as_aux_lemma => kernel_rfl) ?_ (Or.inl ⟨?_, ?_⟩) HS.out ?_; rotate_left 2; (focus (simp only [List.getElem?_toArray, List.getElem?_cons_succ, List.getElem?_cons_zero] <;> rfl)); (focus exact (fun _ _ _ h => h)); (focus rfl); (focus (intro w hSw; (try dsimp only at hSw); go_simp; try (with_reducible rfl))))
  (try simp only [Act.put, List.setIfInBounds_toArray, List.set_cons_zero, List.set_cons_succ])
  (refine wpAnyT_take (i := 4) (oi := ?_) (v := ?_) ?_ (by as_aux_lemma => kernel_rfl) (by as_aux_lemma => kernel_rfl) (by as_aux_lemma => kernel_rfl) (by as_aux_lemma => kernel_rfl) ?_ (Or.inl ⟨?_, ?_⟩) HS.out ?_; rotate_left 2; (focus (simp only [List.getElem?_toArray, List.getElem?_cons_succ, List.getElem?_cons_zero] <;> rfl)); (focus exact (fun _ _ _ h => h)); (focus rfl); (focus (intro w hSw; (try dsimp only at hSw); go_simp; try (with_reducible rfl))))
  (try simp only [Act.put, List.setIfInBounds_toArray, List.set_cons_zero, List.set_cons_succ])
  (refine wpAnyT_take (i := 5) (oi := ?_) (v := ?_) ?_ (by as_aux_lemma => kernel_rfl) (by as_aux_lemma => kernel_rfl) (by as_aux_lemma => kernel_rfl) (by as_aux_lemma => kernel_rfl) ?_ (Or.inl ⟨?_, ?_⟩) HS.out ?_; rotate_left 2; (focus (simp only [List.getElem?_toArray, List.getElem?_cons_succ, List.getElem?_cons_zero] <;> rfl)); (focus exact (fun _ _ _ h => h)); (focus rfl); (focus (intro w hSw; (try dsimp only at hSw); go_simp; try (with_reducible rfl))))
  (try simp only [Act.put, List.setIfInBounds_toArray, List.set_cons_zero, List.set_cons_succ])
  (refine wpAnyT_take (i := 6) (oi := ?_) (v := ?_) ?_ (by as_aux_lemma => kernel_rfl) (by as_aux_lemma => kernel_rfl) (by as_aux_lemma => kernel_rfl) (by as_aux_lemma => kernel_rfl) ?_ (Or.inl ⟨?_, ?_⟩) HS.out ?_; rotate_left 2; (focus (simp only [List.getElem?_toArray, List.getElem?_cons_succ, List.getElem?_cons_zero] <;> rfl)); (focus exact (fun _ _ _ h => h)); (focus rfl); (focus (intro w hSw; (try dsimp only at hSw); go_simp; try (with_reducible rfl))))
  (try simp only [Act.put, List.setIfInBounds_toArray, List.set_cons_zero, List.set_cons_succ])
  (refine wpAnyT_take (i := 7) (oi := ?_) (v := ?_) ?_ (by as_aux_lemma => kernel_rfl) (by as_aux_lemma => kernel_rfl) (by as_aux_lemma => kernel_rfl) (by as_aux_lemma => kernel_rfl) ?_ (Or.inl ⟨?_, ?_⟩) HS.out ?_; rotate_left 2; (focus (simp only [List.getElem?_toArray, List.getElem?_cons_succ, List.getElem?_cons_zero] <;> rfl)); (focus exact (fun _ _ _ h => h)); (focus rfl); (focus (intro w hSw; (try dsimp only at hSw); go_simp; try (with_reducible rfl))))
  (try simp only [Act.put, List.setIfInBounds_toArray, List.set_cons_zero, List.set_cons_succ])
  (refine wpAnyT_take (i := 8) (oi := ?_) (v := ?_) ?_ (by as_aux_lemma => kernel_rfl) (by as_aux_lemma => kernel_rfl) (by as_aux_lemma => kernel_rfl) (by as_aux_lemma => kernel_rfl) ?_ (Or.inl ⟨?_, ?_⟩) HS.out ?_; rotate_left 2; (focus (simp only [List.getElem?_toArray, List.getElem?_cons_succ, List.getElem?_cons_zero] <;> rfl)); (focus exact (fun _ _ _ h => h)); (focus rfl); (focus (intro w hSw; (try dsimp only at hSw); go_simp; try (with_reducible rfl))))
  (try simp only [Act.put, List.setIfInBounds_toArray, List.set_cons_zero, List.set_cons_succ])
  (refine wpAnyT_take (i := 9) (oi := ?_) (v := ?_) ?_ (by as_aux_lemma => kernel_rfl) (by as_aux_lemma => kernel_rfl) (by as_aux_lemma => kernel_rfl) (by as_aux_lemma => kernel_rfl) ?_ (Or.inl ⟨?_, ?_⟩) HS.out ?_; rotate_left 2; (focus (simp only [List.getElem?_toArray, List.getElem?_cons_succ, List.getElem?_cons_zero] <;> rfl)); (focus exact (fun _ _ _ h => h)); (focus rfl); (focus (intro w hSw; (try dsimp only at hSw); go_simp; try (with_reducible rfl))))
  (try simp only [Act.put, List.setIfInBounds_toArray, List.set_cons_zero, List.set_cons_succ])
  (refine wpAnyT_take (i := 10) (oi := ?_) (v := ?_) ?_ (by as_aux_lemma => kernel_rfl) (by as_aux_lemma => kernel_rfl) (by as_aux_lemma => kernel_rfl) (by as_aux_lemma => kernel_rfl) ?_ (Or.inl ⟨?_, ?_⟩) HS.out ?_; rotate_left 2; (focus (simp only [List.getElem?_toArray, List.getElem?_cons_succ, List.getElem?_cons_zero] <;> rfl)); (focus exact (fun _ _ _ h => h)); (focus rfl); (focus (intro w hSw; (try dsimp only at hSw); go_simp; try (with_reducible rfl))))
  (try simp only [Act.put, List.setIfInBounds_toArray, List.set_cons_zero, List.set_cons_succ])
  (refine wpAnyT_take (i := 11) (oi := ?_) (v := ?_) ?_ (by as_aux_lemma => kernel_rfl) (by as_aux_lemma => kernel_rfl) (by as_aux_lemma => kernel_rfl) (by as_aux_lemma => kernel_rfl) ?_ (Or.inl ⟨?_, ?_⟩) HS.out ?_; rotate_left 2; (focus (simp only [List.getElem?_toArray, List.getElem?_cons_succ, List.getElem?_cons_zero] <;> rfl)); (focus exact (fun _ _ _ h => h)); (focus rfl); (focus (intro w hSw; (try dsimp only at hSw); go_simp; try (with_reducible rfl))))
  (try simp only [Act.put, List.setIfInBounds_toArray, List.set_cons_zero, List.set_cons_succ])
  (refine wpAnyT_take (i := 12) (oi := ?_) (v := ?_) ?_ (by as_aux_lemma => kernel_rfl) (by as_aux_lemma => kernel_rfl) (by as_aux_lemma => kernel_rfl) (by as_aux_lemma => kernel_rfl) ?_ (Or.inl ⟨?_, ?_⟩) HS.out ?_; rotate_left 2; (focus (simp only [List.getElem?_toArray, List.getElem?_cons_succ, List.getElem?_cons_zero] <;> rfl)); (focus exact (fun _ _ _ h => h)); (focus rfl); (focus (intro w hSw; (try dsimp only at hSw); go_simp; try (with_reducible rfl))))
  (try simp only [Act.put, List.setIfInBounds_toArray, List.set_cons_zero, List.set_cons_succ])
  (refine wpAnyT_take (i := 13) (oi := ?_) (v := ?_) ?_ (by as_aux_lemma => kernel_rfl) (by as_aux_lemma => kernel_rfl) (by as_aux_lemma => kernel_rfl) (by as_aux_lemma => kernel_rfl) ?_ (Or.inl ⟨?_, ?_⟩) HS.out ?_; rotate_left 2; (focus (simp only [List.getElem?_toArray, List.getElem?_cons_succ, List.getElem?_cons_zero] <;> rfl)); (focus exact (fun _ _ _ h => h)); (focus rfl); (focus (intro w hSw; (try dsimp only at hSw); go_simp; try (with_reducible rfl))))
  (try simp only [Act.put, List.setIfInBounds_toArray, List.set_cons_zero, List.set_cons_succ])
  (refine wpAnyT_late (i := 14) (oi := ?_) ?_ (by as_aux_lemma => kernel_rfl) (by as_aux_lemma => kernel_rfl) (fun K hK => ?_); rotate_left; (focus (simp only [List.getElem?_toArray, List.getElem?_cons_succ, List.getElem?_cons_zero] <;> rfl)))
  go_simp
  refine hK.out _ _ ?_
  clear hK K
  refine wpAnyT_done (by as_aux_lemma => kernel_rfl) ?_ _
  have HBC1 := Lib.hid HBC.out.drew
  obtain ⟨wd, hwd⟩ : ∃ wd : World, wd = wc.drew := ⟨_, rfl⟩
  rw [← hwd] at HBC1 ⊢
  clear hwd HS
  go_wp2_with fail
  go_loopw [13, 14] (fun v i wr => ∃ j : Nat, j ≤ len0 ∧ i = .int .i64 j ∧ wr.ownsRow w.heap.size 25 2 v (3 * j) (codeCells (stores xs j)) ∧ Below w.heap.size w wr) (fun _ i _ => len0 - (intOf i).toNat)
  case atStart => exact ⟨0, by omega, rfl, World.ownsRow_nil _ _ _ _, HBC1.out⟩
  case round =>
    obtain ⟨j, hj, rfl, hown, hb⟩ := hrel
    have HB := Lib.hid hb
    have HOWN := Lib.hid hown
    have hsz := hb.size
    by_cases hlt : j < len0
    · obtain ⟨hcl, a', c', he, _, _, _, hc4⟩ := RDX.out.below hb (Nat.le_refl _)
      obtain ⟨b, off, rfl, hcc⟩ := hc4 (by omega)
      injection he with ha _ _
      subst ha
      have cx : wr.cell? ⟨b, off + j, none⟩ = some (.int .i32 (xs.getD j 0)) := hcc j _ (i32s_get xs j (by have := HXL.out; omega))
      obtain ⟨x, hx⟩ : ∃ x, x = xs.getD j 0 := ⟨_, rfl⟩
      rw [← hx] at cx
      have HXJ := Lib.hid hx
      have ij : IntKind.i32.wrap (j : Int) = j := IntWalk.i32_in _ (by omega)
      have k0 : (0 : Int) ≤ (j : Int) := by omega
      have k1 : (j : Int) < (len0 : Int) := by omega
      clear hcl hc4 hcc hx hb hown
      go_wp2_with (at_builtin; refine app_own _ elemCd rfl _ _ rfl w.heap.size _ (3 * j) (codeCells (stores xs j)) rfl (HOWN.out.alloc _) _ 3 (codeCells [(1, (j : Int)), (1, x), (7, 0)]) rfl (rd_new wr (codeCells [(1, (j : Int)), (1, x), (7, 0)]) 25 3 2 rfl (by decide)) (one_code _) (by simp only [maxLen]; omega) (by omega) (by simp; omega) ?_; intro v' w3 hown3 hg3)
      go_roundw
      case rel => exact ⟨j + 1, by omega, by go_num, by
          rw [show 3 * (j + 1) = 3 * j + 3 by omega, stores, codeCells_append, ← HXJ.out]; exact hown3, below_of_grown (HB.out.alloc HB.out.size _) (by simp; omega) (HOWN.out.alloc _) (Nat.le_refl _) rfl hg3⟩
      case measure => simp [intOf]; omega
    · obtain rfl : j = len0 := by omega
      clear hb hown
      go_wp2_with (at_builtin; refine app_own _ elemCd rfl _ _ rfl w.heap.size _ (3 * j) (codeCells (stores xs j)) rfl (HOWN.out.alloc _) _ 4 (codeCells [(1, (p : Int)), (1, (q : Int)), (8, (k : Int)), (0, 0)]) rfl (rd_new wr (codeCells [(1, (p : Int)), (1, (q : Int)), (8, (k : Int)), (0, 0)]) 25 4 2 rfl (by decide)) (one_code _) (by simp only [maxLen]; omega) (by omega) (by simp; omega) ?_; intro v' w3 hown3 hg3; have hb3 := below_of_grown (HB.out.alloc HB.out.size _) (by simp; omega) (HOWN.out.alloc _) (Nat.le_refl _) rfl hg3; obtain ⟨va, vc, rfl, _⟩ := owns_shape hown3; have hrc := rd_of_owns hown3; have HB3 := Lib.hid hb3; have HRC := Lib.hid hrc; clear hown3 hg3 hb3 hrc)
      have hrc : Rd w3 2 (.slice va (3 * j + 4) vc) (mcode xs p q k).length (codeCells (mcode xs p q k)) := by
        have := HRC.out
        rw [← codeCells_append] at this
        rw [mcode_length, HXL.out]
        unfold mcode
        rw [HXL.out]; exact this
      have hm := mst_new xs p q k
      rw [HXL.out] at hm
      have HMN := Lib.hid hm
      refine (pnew_any _ _ _ j (j : Int) 0 (.inl rfl) (mcode xs p q k) [] HCO.out (by rw [mcode_length, HXL.out]; omega) (by simp) (by simp) (by omega) hrc (Rd.nil _ 1)).mono ?_
      rintro e w5 ⟨Q, F, cv, mv, iv, rfl, hM, _, _, hb5⟩
      have hM' : SM true w5 w3.heap.size Q F cv mv iv (.slice none 0 0) (.slice none 0 0) (.slice none 0 0) (mst xs p q k (laid xs 0) [] 0) := by
        have h0 : baseOf 0 j = 0 := by unfold baseOf; omega
        rw [← HMN.out]; rw [h0] at hM; exact hM
      have HM := Lib.hid hM'
      have HB5 := Lib.hid (HB3.out.trans (hb5.mono HB3.out.size))
      clear hM hM' hb5 hrc hm
      go_wp2_with fail
      refine (prun_any HM.out (3 * (j : Int) + 4) (by omega) (by omega) (by simp [mst])).mono ?_
      rintro e w6 ⟨v, he, ho, F', iv', sv', kv', ov', hM6, _, hmv⟩
      have hfu : (3 * (j : Int) + 4).toNat = 3 * xs.length + 4 := by rw [HXL.out]; omega
      rw [hfu, END.out] at he ho hM6
      have HB6 := Lib.hid (HB5.out.trans (HM.out.fr_below HB3.out.size hmv))
      clear hfu hmv
      by_cases hok : q + k ≤ xs.length ∧ p + k ≤ xs.length
      · rw [if_pos hok] at he ho hM6
        have he' : e = .returned (.agg #[v, .int .i64 1, .int .i64 0]) := he
        subst he'
        obtain ⟨va', vc', rfl, _, _, _⟩ := owns_shape ho
        obtain ⟨hok1, hok2⟩ := hok
        have hx1 : ¬ (j : Int) < (p : Int) + (k : Int) := by have := HXL.out; omega
        have hx2 : ¬ (j : Int) < (q : Int) + (k : Int) := by have := HXL.out; omega
        have hx1b : decide ((j : Int) < (p : Int) + (k : Int)) = false := decide_eq_false hx1
        have hx2b : decide ((j : Int) < (q : Int) + (k : Int)) = false := decide_eq_false hx2
        have HM6 := Lib.hid hM6
        clear ho he hM6 hok1 hok2
        go_wp2_with (at_builtin; refine app_own _ elemI32 rfl (.const (.slice none 0 0)) (.tmp 102) rfl (w6.heap.size + 1) (.slice none 0 0) 0 [] rfl (World.ownsRow_nil _ _ _ _) (.slice a0 j cap0) j (i32s xs) rfl (RDX.out.below (HB6.out.alloc HB6.out.size _) (Nat.le_refl _)) (one_i32s _) (by simp only [maxLen]; omega) (by omega) (by simp) ?_; intro v8 w8 ho8 hg8; simp only [Nat.zero_add, List.nil_append] at ho8; obtain ⟨b8, c8, rfl, h8c, h8m, h8n⟩ := owns_shape ho8)
        have hbox : w8.cell? ⟨w6.heap.size, 1, none⟩ = some (.int .i64 1) := hg8.cell (show (w6.alloc (.cells #[.slice va' (({ mst xs p q k (splice xs p ((xs.drop q).take k)) [] ((3 * xs.length + 3 : Nat) : Int) with fin := 1 } : SSt).out.length) vc', .int .i64 1, .int .i64 0] 31)).cell? ⟨w6.heap.size, 1, none⟩ = some (.int .i64 1) from World.cell?_alloc_new _ _ _ _) (by simp [Value.ownBlock])
        have hb8 : Below (w6.heap.size + 1) (w6.alloc (.cells #[.slice va' (({ mst xs p q k (splice xs p ((xs.drop q).take k)) [] ((3 * xs.length + 3 : Nat) : Int) with fin := 1 } : SSt).out.length) vc', .int .i64 1, .int .i64 0] 31)) w8 := ⟨hg8.os, hg8.tape, hg8.output, hg8.size, fun k' hk' => hg8.block k' (by simp; omega) (by simp [Value.ownBlock])⟩
        have hb68 : Below w6.heap.size w6 w8 := ((Below.refl _ _).alloc (Nat.le_refl _) _).trans (hb8.mono (by omega))
        have HB68 := Lib.hid hb68
        have HO8 := Lib.hid ho8
        have hqj : q + k ≤ j ∧ p + k ≤ j := by omega
        obtain ⟨D1, hD1⟩ : ∃ D : Option Addr, (if c8 = p then b8 else Option.map (fun x => x.add p) b8) = D := ⟨_, rfl⟩
        obtain ⟨D2, hD2⟩ : ∃ D : Option Addr, (if cap0 = q then a0 else Option.map (fun x => x.add q) a0) = D := ⟨_, rfl⟩
        have HSRC := Lib.hid (show Rd w8.drew 1 (.slice D2 k (cap0 - q)) k (i32s ((xs.drop q).take k)) from by
          have h0 : Rd w8.drew 1 (.slice a0 j cap0) j (i32s xs) := RDX.out.below (B := w.heap.size) ((HB6.out.trans (hb68.mono HB6.out.size)).drew) (Nat.le_refl _)
          have h1 := rd_from (lo := q) (D := D2) h0 (by omega) hD2
          have h2 := Rd.take k (cap0 - q) (by omega) (by omega) (Nat.le_refl _) h1
          rw [Nat.mul_one] at h2
          have e : i32s ((xs.drop q).take k) = ((i32s xs).drop q).take k := by simp [i32s, List.map_take, List.map_drop]
          rw [e]; exact h2)
        have y1 : (p : Int) ≤ (j : Int) := by omega
        have y2 : (q : Int) + (k : Int) ≤ (cap0 : Int) := by omega
        have y3 : ((q : Int) + (k : Int)).toNat = q + k := by omega
        have y4 : q + k - q = k := by omega
        have y5 : IntKind.i64.wrap ((q : Int) + (k : Int)) = (q : Int) + (k : Int) := IntWalk.i64_in _ (by omega)
        have y6 : (q : Int) ≤ (q : Int) + (k : Int) := by omega
        have y7 : p ≤ j := by omega
        have y8 : (j : Int) ≤ (c8 : Int) := by omega
        have y9 : q + k ≤ cap0 := by omega
        have HS := Lib.hid (show (fun _ : World => True) w8.drew from trivial)
        have HBOX := Lib.hid hbox
        clear hbox hb8 hb68 ho8 hg8 hqj
        refine wp_region_till 10 (fun _ => True) (by as_aux_lemma => kernel_rfl) ?_
        (refine wpAnyT_take (i := 0) (oi := ?_) (v := ?_) ?_ (by as_aux_lemma => kernel_rfl) (by as_aux_lemma => kernel_rfl) (by as_aux_lemma => kernel_rfl) (by as_aux_lemma => kernel_rfl) ?_ (Or.inl ⟨?_, ?_⟩) HS.out ?_; rotate_left 2; (focus (simp only [List.getElem?_toArray, List.getElem?_cons_succ, List.getElem?_cons_zero] <;> rfl)); (focus exact (fun _ _ _ h => h)); (focus rfl); (focus (intro w hSw; (try dsimp only at hSw); go_simp; try (with_reducible rfl))))
        (try simp only [Act.put, List.setIfInBounds_toArray, List.set_cons_zero, List.set_cons_succ])
        (refine wpAnyT_take (i := 1) (oi := ?_) (v := ?_) ?_ (by as_aux_lemma => kernel_rfl) (by as_aux_lemma => kernel_rfl) (by as_aux_lemma => kernel_rfl) (by as_aux_lemma => kernel_rfl) ?_ (Or.inl ⟨?_, ?_⟩) HS.out ?_; rotate_left 2; (focus (simp only [List.getElem?_toArray, List.getElem?_cons_succ, List.getElem?_cons_zero] <;> rfl)); (focus exact (fun _ _ _ h => h)); (focus rfl); (focus (intro w hSw; (try dsimp only at hSw); go_simp; try (with_reducible rfl))))
        (try simp only [Act.put, List.setIfInBounds_toArray, List.set_cons_zero, List.set_cons_succ])
        (refine wpAnyT_take (i := 2) (oi := ?_) (v := ?_) ?_ (by as_aux_lemma => kernel_rfl) (by as_aux_lemma => kernel_rfl) (by as_aux_lemma => kernel_rfl) (by as_aux_lemma => kernel_rfl) ?_ (Or.inl ⟨?_, ?_⟩) HS.out ?_; rotate_left 2; (focus (simp only [List.getElem?_toArray, List.getElem?_cons_succ, List.getElem?_cons_zero] <;> rfl)); (focus exact (fun _ _ _ h => h)); (focus rfl); (focus (intro w hSw; (try dsimp only at hSw); go_simp; try (with_reducible rfl))))
        (try simp only [Act.put, List.setIfInBounds_toArray, List.set_cons_zero, List.set_cons_succ])
        (refine wpAnyT_take (i := 3) (oi := ?_) (v := ?_) ?_ (by as_aux_lemma => kernel_rfl) (by as_aux_lemma => kernel_rfl) (by as_aux_lemma => kernel_rfl) (by as_aux_lemma => kernel_rfl) ?_ (Or.inl ⟨?_, ?_⟩) HS.out ?_; rotate_left 2; (focus (simp only [List.getElem?_toArray, List.getElem?_cons_succ, List.getElem?_cons_zero] <;> rfl)); (focus exact (fun _ _ _ h => h)); (focus rfl); (focus (intro w hSw; (try dsimp only at hSw); go_simp; try (with_reducible rfl))))
        (try simp only [Act.put, List.setIfInBounds_toArray, List.set_cons_zero, List.set_cons_succ])
        (refine wpAnyT_take (i := 4) (oi := ?_) (v := ?_) ?_ (by as_aux_lemma => kernel_rfl) (by as_aux_lemma => kernel_rfl) (by as_aux_lemma => kernel_rfl) (by as_aux_lemma => kernel_rfl) ?_ (Or.inl ⟨?_, ?_⟩) HS.out ?_; rotate_left 2; (focus (simp only [List.getElem?_toArray, List.getElem?_cons_succ, List.getElem?_cons_zero] <;> rfl)); (focus exact (fun _ _ _ h => h)); (focus rfl); (focus (intro w hSw; (try dsimp only at hSw); go_simp; try (with_reducible rfl))))
        (try simp only [Act.put, List.setIfInBounds_toArray, List.set_cons_zero, List.set_cons_succ])
        (refine wpAnyT_take (i := 5) (oi := ?_) (v := ?_) ?_ (by as_aux_lemma => kernel_rfl) (by as_aux_lemma => kernel_rfl) (by as_aux_lemma => kernel_rfl) (by as_aux_lemma => kernel_rfl) ?_ (Or.inl ⟨?_, ?_⟩) HS.out ?_; rotate_left 2; (focus (simp only [List.getElem?_toArray, List.getElem?_cons_succ, List.getElem?_cons_zero] <;> rfl)); (focus exact (fun _ _ _ h => h)); (focus rfl); (focus (intro w hSw; (try dsimp only at hSw); go_simp; try (with_reducible rfl))))
        (try simp only [Act.put, List.setIfInBounds_toArray, List.set_cons_zero, List.set_cons_succ])
        (refine wpAnyT_take (i := 6) (oi := ?_) (v := ?_) ?_ (by as_aux_lemma => kernel_rfl) (by as_aux_lemma => kernel_rfl) (by as_aux_lemma => kernel_rfl) (by as_aux_lemma => kernel_rfl) ?_ (Or.inl ⟨?_, ?_⟩) HS.out ?_; rotate_left 2; (focus (simp only [List.getElem?_toArray, List.getElem?_cons_succ, List.getElem?_cons_zero] <;> rfl)); (focus exact (fun _ _ _ h => h)); (focus rfl); (focus (intro w hSw; (try dsimp only at hSw); go_simp; try (with_reducible rfl))))
        (try simp only [Act.put, List.setIfInBounds_toArray, List.set_cons_zero, List.set_cons_succ])
        (refine wpAnyT_take (i := 7) (oi := ?_) (v := ?_) ?_ (by as_aux_lemma => kernel_rfl) (by as_aux_lemma => kernel_rfl) (by as_aux_lemma => kernel_rfl) (by as_aux_lemma => kernel_rfl) ?_ (Or.inl ⟨?_, ?_⟩) HS.out ?_; rotate_left 2; (focus (simp only [List.getElem?_toArray, List.getElem?_cons_succ, List.getElem?_cons_zero] <;> rfl)); (focus exact (fun _ _ _ h => h)); (focus rfl); (focus (intro w hSw; (try dsimp only at hSw); go_simp; try (with_reducible rfl))))
        (try simp only [Act.put, List.setIfInBounds_toArray, List.set_cons_zero, List.set_cons_succ])
        (refine wpAnyT_take (i := 8) (oi := ?_) (v := ?_) ?_ (by as_aux_lemma => kernel_rfl) (by as_aux_lemma => kernel_rfl) (by as_aux_lemma => kernel_rfl) (by as_aux_lemma => kernel_rfl) ?_ (Or.inl ⟨?_, ?_⟩) HS.out ?_; rotate_left 2; (focus (simp only [List.getElem?_toArray, List.getElem?_cons_succ, List.getElem?_cons_zero] <;> rfl)); (focus exact (fun _ _ _ h => h)); (focus rfl); (focus (intro w hSw; (try dsimp only at hSw); go_simp; try (with_reducible rfl))))
        (try simp only [Act.put, List.setIfInBounds_toArray, List.set_cons_zero, List.set_cons_succ])
        (refine wpAnyT_one (i := 9) (oi := ?_) ?_ (by as_aux_lemma => kernel_rfl) (fun K hK => ?_); rotate_left; (focus (simp only [List.getElem?_toArray, List.getElem?_cons_succ, List.getElem?_cons_zero] <;> rfl)))
        refine step_app_nil elemI32 rfl (.const (.slice none 0 0)) (.tmp 112) rfl (by simp [Act.eval]) (.slice D2 k (cap0 - q)) k (i32s ((xs.drop q).take k)) (by simp [Act.eval]) HSRC.out (one_i32s _) (by simp only [maxLen]; omega) (by omega) ?_
        intro v9 w9 ho9 hb9
        obtain ⟨b9, c9, rfl, _⟩ := owns_shape ho9
        refine hK.out _ _ trivial ?_
        clear hK K
        have hb9' : Below w8.heap.size w8 w9 := ⟨hb9.os, hb9.tape, hb9.output, hb9.size, hb9.block⟩
        have ho89 : w9.ownsRow (w6.heap.size + 1) 21 1 (.slice b8 j c8) j (i32s xs) := (Fr.of_new hb9' (F := fun _ => False)).owns HO8.out (fun _ _ h => h)
        have hbox9 := late5 HBOX.out hb9'
        have HB69 := Lib.hid (HB68.out.trans (hb9'.mono HB68.out.size))
        have HO9 := Lib.hid ho9
        have HO89 := Lib.hid ho89
        have HBOX9 := Lib.hid hbox9
        have HD1 := Lib.hid hD1
        have hcs : (i32s ((xs.drop q).take k)).length = k := by rw [i32s_length, List.length_take, List.length_drop]; have := HXL.out; omega
        have HCS := Lib.hid hcs
        clear hb9 hb9' ho9 ho89 hbox9
        have hkk : k = 0 ∨ 0 < k := by omega
        rcases hkk with hk0 | hk0
        · have HK0 := Lib.hid hk0
          clear hk0
          (try simp only [Act.put, List.setIfInBounds_toArray, List.set_cons_zero, List.set_cons_succ])
          (refine wpAnyT_late (i := 10) (oi := ?_) ?_ (by as_aux_lemma => kernel_rfl) (by as_aux_lemma => kernel_rfl) (fun K hK => ?_); rotate_left; (focus (simp only [List.getElem?_toArray, List.getElem?_cons_succ, List.getElem?_cons_zero] <;> rfl)))
          refine step_copy_none rfl (.tmp 106) (.tmp 113) 33 33 rfl 21 Try.underlying33 (by kernel_rfl) D1 b9 (j - p) (c8 - p) k c9 (by simp [Act.eval]) (by simp [Act.eval]) (by rw [HK0.out]; exact Nat.zero_min _) ?_
          refine hK.out _ _ ?_
          clear hK K
          refine wpAnyT_done (by as_aux_lemma => kernel_rfl) ?_ _
          have hrow : w9.ownsRow (w6.heap.size + 1) 21 1 (.slice b8 j c8) j (i32s (splice xs p ((xs.drop q).take k))) := by
            have e : splice xs p ((xs.drop q).take k) = xs := by rw [HK0.out]; simp [splice]
            rw [e]; exact HO89.out
          have hbx := HBOX9.out
          have hb6x := HB69.out
          clear HS hcs hD1 hD2
          have HBX := Lib.hid (HB6.out.trans (hb6x.mono HB6.out.size))
          have hMX := HM6.out.below hb6x
          have hlen : (splice xs p ((xs.drop q).take k)).length = j := by rw [length_splice _ _ _ (by rw [List.length_take, List.length_drop]; have := HXL.out; omega)]; exact HXL.out
          have hword := fun i hi => pword_any hMX i hi
          obtain ⟨ys, hys⟩ : ∃ ys, ys = splice xs p ((xs.drop q).take k) := ⟨_, rfl⟩
          rw [← hys] at hrow hlen
          have HW := Lib.hid (show ∀ i, i < j → Calls Try.prog 23 #[.pointer (some ⟨Q, 0, none⟩), .int .i64 i] w9 (fun e w' => e = .returned (.tuple #[.int .i32 (ys.getD i 0), .bool true]) ∧ w9 = w') from fun i hi => by
            have := hword i (by show i < (splice xs p ((xs.drop q).take k)).length; rw [← hys, hlen]; exact hi)
            rw [hys]; exact this)
          have HROW := Lib.hid hrow
          have HLEN := Lib.hid hlen
          clear hMX hlen hword hys hrow hb6x
          go_wp2_with fail
          go_loop [18] (fun i => ∃ m : Nat, m ≤ j ∧ i = .int .i64 m) (fun i => j - (intOf i).toNat)
          case atStart => exact ⟨0, by omega, rfl⟩
          case round =>
            obtain ⟨m, hm, rfl⟩ := hrel
            by_cases hlt : m < j
            · obtain ⟨g, cap', he, _, _, _, _⟩ := owns_some HROW.out (by omega)
              have cx := HROW.out.cells (g := g) (by rw [he]; rfl) m _ (i32s_get ys m (by rw [HLEN.out]; exact hlt))
              rw [Addr.add_lit, Nat.zero_add] at cx
              injection he with ha hbj hcc'
              subst ha hcc'
              clear hbj
              have c2 := HW.out m hlt
              obtain ⟨X, hX⟩ : ∃ X, X = ys.getD m 0 := ⟨_, rfl⟩
              rw [← hX] at cx c2
              have C2 := Lib.hid c2
              have hk0' : (0 : Int) ≤ (m : Int) := by omega
              have hk1' : (m : Int) < (j : Int) := by omega
              clear hX c2
              go_wp2_with (go_at_call 23; refine C2.out.mono ?_; rintro e w' ⟨rfl, rfl⟩)
              go_round
              case rel => exact ⟨m + 1, by omega, by go_num⟩
              case measure => simp [intOf]; omega
            · obtain rfl : m = j := by omega
              go_wp2_with fail
              go_ret
              exact ⟨rfl, HBX.out⟩
        ·
          (try simp only [Act.put, List.setIfInBounds_toArray, List.set_cons_zero, List.set_cons_succ])
          (refine wpAnyT_late (i := 10) (oi := ?_) ?_ (by as_aux_lemma => kernel_rfl) (by as_aux_lemma => kernel_rfl) (fun K hK => ?_); rotate_left; (focus (simp only [List.getElem?_toArray, List.getElem?_cons_succ, List.getElem?_cons_zero] <;> rfl)))
          obtain ⟨g8, c8', he8, hg8a, hg8b, _, _⟩ := owns_some HO89.out (by omega)
          injection he8 with he8 _ _
          have ho8g := HO89.out
          rw [he8] at ho8g
          obtain ⟨cur, hg, hcl, hnew⟩ := owns_splice ho8g
          refine step_copy_fr rfl (.tmp 106) (.tmp 113) 33 33 rfl 21 Try.underlying33 (by kernel_rfl) D1 b9 (j - p) (c8 - p) k c9 (by simp [Act.eval]) (by simp [Act.eval]) g8 p cur 21 hg (i32s ((xs.drop q).take k)) (by rw [HCS.out]; exact (Nat.min_eq_left (by omega)).symm) (fun h0 => by
            refine ⟨by rw [← HD1.out, if_neg (by omega), he8]; simp [Addr.add_lit], ?_⟩
            obtain ⟨g9, c9', he9, _, _, _, _⟩ := owns_some HO9.out hk0
            injection he9 with he9 _ _
            refine ⟨⟨g9, 0, none⟩, he9, fun i u hu => ?_⟩
            have ho9 := HO9.out
            rw [he9] at ho9
            exact ho9.cells (g := g9) rfl i u hu) (by rw [HCS.out]; omega) (one_i32s _) ?_
          intro w10 hb10 hf10
          refine hK.out _ _ ?_
          clear hK K
          refine wpAnyT_done (by as_aux_lemma => kernel_rfl) ?_ _
          have hrow : w10.ownsRow (w6.heap.size + 1) 21 1 (.slice b8 j c8) j (i32s (splice xs p ((xs.drop q).take k))) := by
            have := hnew w10 p (i32s ((xs.drop q).take k)) hb10.out (by rw [HCS.out]; omega)
            rw [splice_i32s] at this
            rw [he8]; exact this
          have hbx : w10.cell? ⟨w6.heap.size, 1, none⟩ = some (.int .i64 1) := (hf10.out.cell (p := ⟨w6.heap.size, 1, none⟩) (World.block_lt_of_cell? _ _ HBOX9.out) (by show ¬ w6.heap.size = g8; omega)).trans HBOX9.out
          have hb6x : Below w6.heap.size w6 w10 := HB69.out.trans (hf10.out.below (by have := HB69.out.size; exact this) (fun i hi e => by omega))
          clear HS hcs hD1 hD2 he8 ho8g hg hcl hnew hb10 hf10
          have HBX := Lib.hid (HB6.out.trans (hb6x.mono HB6.out.size))
          have hMX := HM6.out.below hb6x
          have hlen : (splice xs p ((xs.drop q).take k)).length = j := by rw [length_splice _ _ _ (by rw [List.length_take, List.length_drop]; have := HXL.out; omega)]; exact HXL.out
          have hword := fun i hi => pword_any hMX i hi
          obtain ⟨ys, hys⟩ : ∃ ys, ys = splice xs p ((xs.drop q).take k) := ⟨_, rfl⟩
          rw [← hys] at hrow hlen
          have HW := Lib.hid (show ∀ i, i < j → Calls Try.prog 23 #[.pointer (some ⟨Q, 0, none⟩), .int .i64 i] w10 (fun e w' => e = .returned (.tuple #[.int .i32 (ys.getD i 0), .bool true]) ∧ w10 = w') from fun i hi => by
            have := hword i (by show i < (splice xs p ((xs.drop q).take k)).length; rw [← hys, hlen]; exact hi)
            rw [hys]; exact this)
          have HROW := Lib.hid hrow
          have HLEN := Lib.hid hlen
          clear hMX hlen hword hys hrow hb6x
          go_wp2_with fail
          go_loop [18] (fun i => ∃ m : Nat, m ≤ j ∧ i = .int .i64 m) (fun i => j - (intOf i).toNat)
          case atStart => exact ⟨0, by omega, rfl⟩
          case round =>
            obtain ⟨m, hm, rfl⟩ := hrel
            by_cases hlt : m < j
            · obtain ⟨g, cap', he, _, _, _, _⟩ := owns_some HROW.out (by omega)
              have cx := HROW.out.cells (g := g) (by rw [he]; rfl) m _ (i32s_get ys m (by rw [HLEN.out]; exact hlt))
              rw [Addr.add_lit, Nat.zero_add] at cx
              injection he with ha hbj hcc'
              subst ha hcc'
              clear hbj
              have c2 := HW.out m hlt
              obtain ⟨X, hX⟩ : ∃ X, X = ys.getD m 0 := ⟨_, rfl⟩
              rw [← hX] at cx c2
              have C2 := Lib.hid c2
              have hk0' : (0 : Int) ≤ (m : Int) := by omega
              have hk1' : (m : Int) < (j : Int) := by omega
              clear hX c2
              go_wp2_with (go_at_call 23; refine C2.out.mono ?_; rintro e w' ⟨rfl, rfl⟩)
              go_round
              case rel => exact ⟨m + 1, by omega, by go_num⟩
              case measure => simp [intOf]; omega
            · obtain rfl : m = j := by omega
              go_wp2_with fail
              go_ret
              exact ⟨rfl, HBX.out⟩
      · rw [if_neg hok] at he ho hM6
        have he' : e = .returned (.agg #[v, .int .i64 2, .int .i64 15]) := he
        subst he'
        obtain ⟨va', vc', rfl, _, _, _⟩ := owns_shape ho
        have hor : (j : Int) < (p : Int) + (k : Int) ∨ (¬ (j : Int) < (p : Int) + (k : Int) ∧ (j : Int) < (q : Int) + (k : Int)) := by have := HXL.out; omega
        clear ho he hM6 hok
        rcases hor with hx1 | ⟨hx1, hx2⟩
        all_goals
          go_wp2_with fail
          go_ret
          exact ⟨rfl, HB6.out.alloc HB6.out.size _⟩
end Go.Proofs.Ytgkdphnhfjjepaa
