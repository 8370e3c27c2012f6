/- The walks and the plain lemmas of the statement, joined: part 0. No condition. -/
import Derived.WalkKit
import Derived.WalkLawsBesides
import Derived.WalkSpells
import Derived.Laws.AppendOwnNone
import Derived.Lib.Hide
import Derived.Lib.SliceRun
import Derived.Laws.BytesArg
import Derived.ProofKit
import Derived.OpenShut
import Derived.Laws.OwnMore
import Derived.Test.YtgkdphnhfjjepaaChecked
import Derived.Deep.RegionHeld3
import Derived.Deep.QuietTactic
import Derived.BigQuiet
import Derived.Defers
import Derived.Recover
import Derived.Deep.RegionWith
import Derived.Deep.CutBlock

/- Slices that are read, slices that are the call's own, appended to: the guide's laws in one form, for whatever program. -/
namespace Go.Waf
open Go.RowKit

/-- What is known of a slice type t of elements e. -/
structure Elem (P : Program) (t e size bytes : Nat) : Prop where
  und : P.underlying t = some (.slice e)
  info : ∃ i z, P.info? e = some i ∧ i.zero = some z ∧ i.size = size ∧ i.bytes = bytes ∧ z.cells.size = size
  pos : 0 < size

theorem Elem.mk' {P : Program} {t e size bytes : Nat} {z : Value} (hu : P.underlying t = some (.slice e)) (h : (P.info? e).map (fun i => (i.zero, i.size, i.bytes)) = some (some z, size, bytes)) (hz : z.cells.size = size) (hp : 0 < size) : Elem P t e size bytes := by
  refine ⟨hu, ?_, hp⟩
  cases hi : P.info? e with
  | none => rw [hi] at h; simp at h
  | some i =>
    rw [hi] at h
    simp only [Option.map_some, Option.some.injEq, Prod.mk.injEq] at h
    exact ⟨i, z, rfl, h.1, h.2.1, h.2.2, hz⟩
/-- The slice v has n elements, whose cells (size each) hold cs: nil, or empty, or at an address. -/
def Rd (w : World) (size : Nat) (v : Value) (n : Nat) (cs : List Value) : Prop :=
  cs.length = n * size ∧ ∃ a cap, v = .slice a n cap ∧ n ≤ cap ∧ cap ≤ maxLen ∧ (a = none → cap = 0) ∧
    (0 < n → ∃ b off, a = some ⟨b, off, none⟩ ∧ ∀ j u, cs[j]? = some u → w.cell? ⟨b, off + j, none⟩ = some u)

theorem Rd.nil (w : World) (size : Nat) : Rd w size (.slice none 0 0) 0 [] := ⟨by simp, none, 0, rfl, Nat.le_refl _, by simp [maxLen], fun _ => rfl, fun h => absurd h (by omega)⟩

theorem Rd.of_cells {w : World} {size b off n cap : Nat} {cs : List Value} (hl : cs.length = n * size) (h1 : n ≤ cap) (h2 : cap ≤ maxLen) (h : ∀ j u, cs[j]? = some u → w.cell? ⟨b, off + j, none⟩ = some u) : Rd w size (.slice (some ⟨b, off, none⟩) n cap) n cs :=
  ⟨hl, _, _, rfl, h1, h2, by simp, fun _ => ⟨b, off, rfl, h⟩⟩

theorem Rd.keep {w w' : World} {size n : Nat} {v : Value} {cs : List Value} (h : Rd w size v n cs) (hk : ∀ b o u, w.cell? ⟨b, o, none⟩ = some u → w'.cell? ⟨b, o, none⟩ = some u) : Rd w' size v n cs := by
  obtain ⟨hl, a, cap, rfl, h1, h2, h3, h4⟩ := h
  refine ⟨hl, a, cap, rfl, h1, h2, h3, fun hn => ?_⟩
  obtain ⟨b, off, rfl, hc⟩ := h4 hn
  exact ⟨b, off, rfl, fun j u hu => hk _ _ _ (hc j u hu)⟩

theorem Rd.below {w w' : World} {size n B : Nat} {v : Value} {cs : List Value} (h : Rd w size v n cs) (hb : Below B w w') (hB : w.heap.size ≤ B) : Rd w' size v n cs :=
  h.keep fun b o u hu => by rw [hb.cell (p := ⟨b, o, none⟩) (Nat.lt_of_lt_of_le (World.block_lt_of_cell? w _ hu) hB)]; exact hu

/-- A new block, read whole. -/
theorem rd_new (w : World) (cs : List Value) (t : TypeId) (n size : Nat) (hl : cs.length = n * size) (hm : n ≤ maxLen) : Rd (w.alloc (.cells cs.toArray t)) size (.slice (some ⟨w.heap.size, 0, none⟩) n n) n cs :=
  Rd.of_cells hl (Nat.le_refl _) hm fun j u hu => by
    rw [World.cell?_alloc_new]
    simpa using hu
theorem rd_of_owns {w : World} {base e size n : Nat} {v : Value} {cs : List Value} (h : w.ownsRow base e size v n cs) : Rd w size v n cs := by
  refine ⟨h.1, ?_⟩
  rcases h.2 with ⟨rfl, rfl⟩ | ⟨g, cap, cur, rfl, hb, hg, h1, h2, hs, ht⟩
  · exact ⟨none, 0, rfl, Nat.le_refl _, by simp [maxLen], fun _ => rfl, fun h => absurd h (by omega)⟩
  · refine ⟨_, cap, rfl, h1, h2, by simp, fun _ => ⟨g, 0, rfl, fun j u hu => ?_⟩⟩
    have hc := h.cells (g := g) rfl j u hu
    rwa [Addr.add_lit] at hc

theorem owns_mono {w : World} {base base' e size n : Nat} {v : Value} {cs : List Value} (h : w.ownsRow base e size v n cs) (hb : base' ≤ base) : w.ownsRow base' e size v n cs := by
  refine ⟨h.1, ?_⟩
  rcases h.2 with h | ⟨g, cap, cur, hv, hg, r⟩
  · exact .inl h
  · exact .inr ⟨g, cap, cur, hv, Nat.le_trans hb hg, r⟩
/-- A piece of what is read. -/
theorem Rd.drop {w : World} {size n b off cap : Nat} {cs : List Value} (i : Nat) (hi : i ≤ n) (h : Rd w size (.slice (some ⟨b, off, none⟩) n cap) n cs) : Rd w size (.slice (some ⟨b, off + i * size, none⟩) (n - i) (cap - i)) (n - i) (cs.drop (i * size)) := by
  obtain ⟨hl, a, c, he, h1, h2, h3, h4⟩ := h
  cases he
  refine ⟨by rw [List.length_drop, hl, Nat.sub_mul], _, _, rfl, by omega, by omega, by simp, fun hn => ⟨b, _, rfl, fun j u hu => ?_⟩⟩
  obtain ⟨b', off', e, hc⟩ := h4 (by omega)
  cases e
  rw [List.getElem?_drop] at hu
  rw [Nat.add_assoc]
  exact hc _ _ hu
theorem Rd.take {w : World} {size n cap : Nat} {a : Option Addr} {cs : List Value} (i cap' : Nat) (hi : i ≤ n) (hc' : i ≤ cap') (hc2 : cap' ≤ cap) (h : Rd w size (.slice a n cap) n cs) : Rd w size (.slice a i cap') i (cs.take (i * size)) := by
  obtain ⟨hl, a', c, he, h1, h2, h3, h4⟩ := h
  cases he
  have : i * size ≤ n * size := Nat.mul_le_mul_right _ hi
  refine ⟨by rw [List.length_take, hl]; omega, _, _, rfl, hc', by omega, fun ha => by have := h3 ha; omega, fun hn => ?_⟩
  obtain ⟨b, off, rfl, hc⟩ := h4 (by omega)
  refine ⟨b, off, rfl, fun j u hu => hc j u ?_⟩
  rw [List.getElem?_take] at hu
  split at hu
  · exact hu
  · cases hu

section
variable {P : Program} (w : World) {t e size bytes : Nat}
/-- append onto a slice of the call's own, whatever is appended. -/
theorem app_own {ops : Array Oper} {rest : List Oper} {o : Oper} {a : Act} {Q : Exit → Act → World → Prop} (E : Elem P t e size bytes) (hgd : o.guard = none) (s x : Operand)
    (ho : o.op = .call { callee := .builtin .append, args := #[s, x], argTypes := #[t, t] })
    (base : Nat) (v : Value) (n : Nat) (xs : List Value) (hs : a.eval s = v) (hown : w.ownsRow base e size v n xs)
    (vx : Value) (m : Nat) (news : List Value) (hx : a.eval x = vx) (hr : Rd w size vx m news) (h1 : ∀ u ∈ news, u.oneCell' = true)
    (h63 : n + m ≤ maxLen) (hbytes : (n + m) * bytes ≤ 140737488355328) (hbase : base ≤ w.heap.size)
    (h : ∀ v' w', w'.ownsRow base e size v' (n + m) (xs ++ news) → w.grownBy w' v.ownBlock → wpList P ops Q rest (a.put o.dst v') w') : wpList P ops Q (o :: rest) a w := by
  obtain ⟨i, z, hi, hz, hsi, hb, hzs⟩ := E.info
  obtain ⟨hl, ad, cap, rfl, c1, c2, c3, c4⟩ := hr
  cases ad with
  | none =>
    have : cap = 0 := c3 rfl
    obtain rfl : m = 0 := by omega
    obtain rfl : news = [] := List.eq_nil_of_length_eq_zero (by simpa using hl)
    subst this
    refine wpList_append_own_none hgd s x t ho base e i size E.und hi v n xs hs hown hx ?_
    exact h v w (by simpa using hown) (World.grownBy.refl w _)
  | some ad =>
    refine wpList_append_own w hgd s x t ho base e i z size bytes E.und hi hz hsi hb hzs E.pos v n xs hs hown ad m cap news hx hl ?_ h1 h63 hbytes hbase fun v' w' h2 h3 _ => h v' w' h2 h3
    intro j u hu
    have hn : 0 < m := by
      rcases Nat.eq_zero_or_pos m with h0 | h0
      · subst h0
        obtain rfl : news = [] := List.eq_nil_of_length_eq_zero (by simpa using hl)
        simp at hu
      · exact h0
    obtain ⟨b, off, e1, hc⟩ := c4 hn
    cases e1
    rw [Addr.add_lit]; exact hc j u hu

/-- append onto a slice without room (its capacity is its length): what comes is the call's own. -/
theorem app_full {ops : Array Oper} {rest : List Oper} {o : Oper} {a : Act} {Q : Exit → Act → World → Prop} (E : Elem P t e size bytes) (hgd : o.guard = none) (s x : Operand)
    (ho : o.op = .call { callee := .builtin .append, args := #[s, x], argTypes := #[t, t] })
    (ao : Option Addr) (n : Nat) (xs : List Value) (hs : a.eval s = .slice ao n n) (hown : Rd w size (.slice ao n n) n xs)
    (vx : Value) (m : Nat) (news : List Value) (hx : a.eval x = vx) (hr : Rd w size vx m news) (h1 : ∀ u ∈ news, u.oneCell' = true) (hm : 0 < m)
    (h63 : n + m ≤ maxLen) (hbytes : (n + m) * bytes ≤ 140737488355328)
    (h : ∀ v' w', w'.ownsRow w.heap.size e size v' (n + m) (xs ++ news) → w.grownBy w' none → wpList P ops Q rest (a.put o.dst v') w') : wpList P ops Q (o :: rest) a w := by
  obtain ⟨i, z, hi, hz, hsi, hb, hzs⟩ := E.info
  obtain ⟨hl, ad, cap, rfl, c1, c2, c3, c4⟩ := hr
  obtain ⟨hl', ad', cap', he, d1, d2, d3, d4⟩ := hown
  cases he
  obtain ⟨b, off, rfl, hc⟩ := c4 hm
  refine wpList_append_grows w hgd s x t ho e i z size bytes E.und hi hz hsi hb hzs E.pos ao n n xs hs (fun ha => by have := d3 ha; omega) hl' ?_ _ m cap news hx hl (fun j u hu => by rw [Addr.add_lit]; exact hc j u hu) h1 (by omega) h63 hbytes h
  intro bb hbb j u hu
  subst hbb
  have hn : 0 < n := by
    rcases Nat.eq_zero_or_pos n with h0 | h0
    · subst h0
      obtain rfl : xs = [] := List.eq_nil_of_length_eq_zero (by simpa using hl')
      simp at hu
    · exact h0
  obtain ⟨b', off', e1, hc'⟩ := d4 hn
  cases e1
  rw [Addr.add_lit]; exact hc' j u hu
end

theorem below_drewN {B : Nat} {a w : World} (h : Below B a w) (n : Nat) : Below B a (w.drewN n) := ⟨h.os, h.tape, h.output, h.size, h.block⟩
theorem quiet_left {P : Program} {f : FuncId} {args : Array Value} {w : World} {n : Nat} {v : Value}
    (h : Calls P f args (w.drewN n) fun e w' => e = .returned v ∧ w.drewN n = w') : Calls P f args (w.drewN n) fun e w'' => e = .returned v ∧ ∃ m, w'' = w.drewN m :=
  h.mono fun _ _ ⟨he, hm⟩ => ⟨he, n, hm.symm⟩

/-- Bytes as values. -/
def byt (xs : List Int) : List Value := xs.map (Value.int .u8)
theorem one_byt (xs : List Int) : ∀ u ∈ byt xs, u.oneCell' = true := by
  intro u hu; obtain ⟨n, _, rfl⟩ := List.mem_map.1 hu; rfl
theorem byt_append (xs ys : List Int) : byt (xs ++ ys) = byt xs ++ byt ys := List.map_append
theorem byt_length (xs : List Int) : (byt xs).length = xs.length := List.length_map ..
theorem byt_get (xs : List Int) (j : Nat) (h : j < xs.length) : (byt xs)[j]? = some (.int .u8 (xs.getD j 0)) := by simp [byt, h]

/-- Bytes as a string. -/
theorem conv_rd {P : Program} {w : World} {src e dst n : Nat} {v : Value} {xs : List Int} (hs : P.underlying src = some (.slice e)) (he : P.underlying e = some (.int .u8)) (hd : P.underlying dst = some .string) (hr : Rd w 1 v n (byt xs)) : (convert src dst v).run P w = .ok (.string (strOfNums xs)) w := by
  obtain ⟨hl, a, cap, rfl, h1, h2, h3, h4⟩ := hr
  have hxl : xs.length = n := by simpa [byt] using hl
  rcases Nat.eq_zero_or_pos n with h0 | h0
  · subst h0
    obtain rfl : xs = [] := List.eq_nil_of_length_eq_zero hxl
    cases a with
    | none => rw [run_convert_bytes_nil w src e hs he 0 cap dst hd]; rfl
    | some a =>
      rw [run_convert_bytes_string w src dst e _ 0 cap hs he hd, run_bytesToString w _ 0 cap [] (by simp [loadCells, loadCellsFrom])]
      rfl
  · obtain ⟨b, off, rfl, hc⟩ := h4 h0
    exact run_convert_bytes_arg w src e hs he b off n cap xs hxl (fun i hi => by
      rw [← hxl] at hi
      exact hc i _ (byt_get xs i hi)) dst hd
/-- A call that hands back a slice of its own, in new memory. -/
def OwnRet (B e size n : Nat) (cs : List Value) (w : World) (en : Ending) (w' : World) : Prop := ∃ v, en = .returned v ∧ w'.ownsRow B e size v n cs ∧ Below B w w'

theorem below_of_grown {B : Nat} {a w w' : World} {row : Option Nat} {base e size n : Nat} {v : Value} {xs : List Value} (h : Below B a w) (hB : B ≤ w.heap.size) (hown : w.ownsRow base e size v n xs) (hbase : B ≤ base) (hrow : row = v.ownBlock) (hg : w.grownBy w' row) : Below B a w' :=
  h.grown hg hB fun k hk => Nat.le_trans hbase (hown.lt k (by rw [← hrow, hk])).1
theorem below_of_grown_none {B : Nat} {a w w' : World} (h : Below B a w) (hB : B ≤ w.heap.size) (hg : w.grownBy w' none) : Below B a w' :=
  h.grown hg hB fun k hk => by cases hk
end Go.Waf

/- More on slices that are read, slices that are the call's own. -/
namespace Go.Waf
open Go.RowKit
theorem owns_shape {w : World} {base e size n : Nat} {v : Value} {cs : List Value} (h : w.ownsRow base e size v n cs) : ∃ a cap, v = .slice a n cap ∧ n ≤ cap ∧ cap ≤ maxLen ∧ (a = none → cap = 0) := by
  obtain ⟨_, a, cap, hv, h1, h2, h3, _⟩ := rd_of_owns h
  exact ⟨a, cap, hv, h1, h2, h3⟩
theorem rd_shape {w : World} {size n : Nat} {v : Value} {cs : List Value} (h : Rd w size v n cs) : ∃ a cap, v = .slice a n cap ∧ n ≤ cap ∧ cap ≤ maxLen ∧ (a = none → cap = 0) := by
  obtain ⟨_, a, cap, hv, h1, h2, h3, _⟩ := h
  exact ⟨a, cap, hv, h1, h2, h3⟩
/-- An argument's slice of integers. -/
theorem rd_of_row {w : World} {a : Option Addr} {len cap : Nat} {zs : List Int} {k : IntKind}
    (h : (a = none ∧ len = 0 ∧ cap = 0 ∧ zs = []) ∨ ∃ x, a = some x ∧ len ≤ cap ∧ cap ≤ maxLen ∧ zs.length = cap ∧ (∀ i, i < zs.length → w.cell? (x.add i) = some (.int k (zs.getD i 0))) ∧ ∀ n ∈ zs, (Lit.int k n).wf = true) :
    Rd w 1 (.slice a len cap) len ((zs.take len).map (Value.int k)) ∧ (∀ n ∈ zs.take len, (Lit.int k n).wf = true) ∧ (zs.take len).length = len := by
  rcases h with ⟨rfl, rfl, rfl, rfl⟩ | ⟨x, rfl, h1, h2, h3, h4, h5⟩
  · exact ⟨by simpa using Rd.nil w 1, by simp, rfl⟩
  · have hl : (zs.take len).length = len := by rw [List.length_take]; omega
    refine ⟨⟨by simp [h3, h1], _, _, rfl, h1, h2, by simp, fun hn => ?_⟩, fun n hn => h5 n (List.mem_of_mem_take hn), hl⟩
    obtain ⟨b, off, rfl, hc⟩ := ints_at h4 (by omega)
    refine ⟨b, off, rfl, fun j u hu => ?_⟩
    rw [List.getElem?_map, List.getElem?_take] at hu
    split at hu
    · have hj : j < zs.length := by omega
      rw [List.getElem?_eq_getElem hj] at hu
      simp only [Option.map_some, Option.some.injEq] at hu
      rw [hc j hj, ← hu]
      simp [List.getD, hj]
    · simp at hu
theorem Rd.full {w : World} {size n cap : Nat} {a : Option Addr} {cs : List Value} (h : Rd w size (.slice a n cap) n cs) : Rd w size (.slice a n n) n cs := by
  obtain ⟨hl, a', c, he, h1, h2, h3, h4⟩ := h
  cases he
  exact ⟨hl, a, n, rfl, Nat.le_refl _, by omega, fun ha => by have := h3 ha; omega, h4⟩
/-- What a law is told of a slice of integers that came in (the frame's IsRow, written out). -/
def RowOf (k : IntKind) (w : World) (a : Option Addr) (len cap : Nat) (zs : List Int) : Prop :=
  (a = none ∧ len = 0 ∧ cap = 0 ∧ zs = []) ∨ ∃ x, a = some x ∧ len ≤ cap ∧ cap ≤ maxLen ∧ zs.length = cap ∧ (∀ i, i < zs.length → w.cell? (x.add i) = some (.int k (zs.getD i 0))) ∧ ∀ n ∈ zs, (Lit.int k n).wf = true
theorem RowOf.bounds {k : IntKind} {w : World} {a : Option Addr} {len cap : Nat} {zs : List Int} (h : RowOf k w a len cap zs) : len ≤ cap ∧ cap ≤ 9223372036854775807 := by
  rcases h with ⟨_, rfl, rfl, _⟩ | ⟨x, _, h1, h2, _⟩
  · omega
  · unfold maxLen at h2; omega
theorem RowOf.rd {k : IntKind} {w : World} {a : Option Addr} {len cap : Nat} {zs : List Int} (h : RowOf k w a len cap zs) : Rd w 1 (.slice a len cap) len ((zs.take len).map (Value.int k)) := (rd_of_row h).1
theorem RowOf.wf {k : IntKind} {w : World} {a : Option Addr} {len cap : Nat} {zs : List Int} (h : RowOf k w a len cap zs) : ∀ n ∈ zs.take len, (Lit.int k n).wf = true := (rd_of_row h).2.1
theorem RowOf.len {k : IntKind} {w : World} {a : Option Addr} {len cap : Nat} {zs : List Int} (h : RowOf k w a len cap zs) : (zs.take len).length = len := (rd_of_row h).2.2
end Go.Waf

/- Which blocks a call may turn; append, with where its row lies. -/
namespace Go.Waf
open Go.RowKit

/-- Only the blocks of F may have turned; what is new is new. -/
structure Fr (F : Nat → Prop) (w w' : World) : Prop where
  os : w'.os = w.os
  tape : w'.tape = w.tape
  output : w'.output = w.output
  size : w.heap.size ≤ w'.heap.size
  block : ∀ k, k < w.heap.size → ¬ F k → w'.heap[k]? = w.heap[k]?
theorem Fr.refl (F : Nat → Prop) (w : World) : Fr F w w := ⟨rfl, rfl, rfl, Nat.le_refl _, fun _ _ _ => rfl⟩
theorem Fr.trans {F F' : Nat → Prop} {a b c : World} (h : Fr F a b) (k : Fr F' b c) (hF : ∀ i, i < a.heap.size → F' i → F i) : Fr F a c :=
  ⟨k.os.trans h.os, k.tape.trans h.tape, k.output.trans h.output, Nat.le_trans h.size k.size, fun i hi hn => (k.block i (Nat.lt_of_lt_of_le hi h.size) (fun hf => hn (hF i hi hf))).trans (h.block i hi hn)⟩
theorem Fr.mono {F F' : Nat → Prop} {a b : World} (h : Fr F a b) (hF : ∀ i, i < a.heap.size → F i → F' i) : Fr F' a b := ⟨h.os, h.tape, h.output, h.size, fun i hi hn => h.block i hi (fun hf => hn (hF i hi hf))⟩
theorem Fr.of_below {B : Nat} {a b : World} (h : Below B a b) : Fr (fun k => B ≤ k) a b := ⟨h.os, h.tape, h.output, h.size, fun i _ hn => h.block i (by omega)⟩
theorem Fr.of_new {F : Nat → Prop} {a b : World} (h : Below a.heap.size a b) : Fr F a b := ⟨h.os, h.tape, h.output, h.size, fun i hi _ => h.block i hi⟩
theorem Fr.of_grown {F : Nat → Prop} {a b : World} {row : Option Nat} (h : a.grownBy b row) (hF : ∀ k, row = some k → F k) : Fr F a b :=
  ⟨h.os, h.tape, h.output, h.size, fun i hi hn => h.block i hi (fun e => hn (hF i e.symm))⟩
theorem Fr.below {F : Nat → Prop} {a b : World} {B : Nat} (h : Fr F a b) (hB : B ≤ a.heap.size) (hF : ∀ i, i < B → ¬ F i) : Below B a b := ⟨h.os, h.tape, h.output, h.size, fun i hi => h.block i (by omega) (hF i hi)⟩
theorem Fr.cell {F : Nat → Prop} {a b : World} (h : Fr F a b) {p : Addr} (hp : p.block < a.heap.size) (hn : ¬ F p.block) : b.cell? p = a.cell? p := World.cell?_of_block (h.block _ hp hn)
theorem Fr.alloc {F : Nat → Prop} {a b : World} (h : Fr F a b) (o : Obj) : Fr F a (b.alloc o) :=
  h.trans (F' := fun _ => False) ⟨rfl, rfl, rfl, by simp, fun k hk _ => Below.heap_alloc _ _ _ hk⟩ (fun _ _ hf => hf.elim)
theorem Fr.setCell {F : Nat → Prop} {a b : World} (h : Fr F a b) {p : Addr} (hp : a.heap.size ≤ p.block ∨ F p.block) (u : Value) : Fr F a (b.setCell p u) :=
  h.trans (F' := fun k => k = p.block) ⟨rfl, rfl, rfl, by simp [World.setCell], fun k _ hk => Below.heap_setCell _ _ _ _ hk⟩ (fun i hi hf => by
    rcases hp with hp | hp
    · subst hf; omega
    · rw [hf]; exact hp)
theorem Fr.drewN {F : Nat → Prop} {a b : World} (h : Fr F a b) (n : Nat) : Fr F a (b.drewN n) := ⟨h.os, h.tape, h.output, h.size, h.block⟩
theorem Fr.drew {F : Nat → Prop} {a b : World} (h : Fr F a b) : Fr F a b.drew := ⟨h.os, h.tape, h.output, h.size, h.block⟩
theorem Fr.rd {F : Nat → Prop} {a b : World} {size n : Nat} {v : Value} {cs : List Value} (h : Fr F a b) (hr : Rd a size v n cs) (hv : ∀ k, v.ownBlock = some k → ¬ F k) : Rd b size v n cs := by
  obtain ⟨hl, ad, cap, rfl, h1, h2, h3, h4⟩ := hr
  refine ⟨hl, ad, cap, rfl, h1, h2, h3, fun hn => ?_⟩
  obtain ⟨bb, off, rfl, hc⟩ := h4 hn
  refine ⟨bb, off, rfl, fun j u hu => ?_⟩
  rw [h.cell (p := ⟨bb, off + j, none⟩) (World.block_lt_of_cell? a _ (hc j u hu)) (hv bb rfl)]
  exact hc j u hu
theorem Fr.owns {F : Nat → Prop} {a b : World} {base e size n : Nat} {v : Value} {cs : List Value} (h : Fr F a b) (ho : a.ownsRow base e size v n cs) (hv : ∀ k, v.ownBlock = some k → ¬ F k) : b.ownsRow base e size v n cs := by
  refine ⟨ho.1, ?_⟩
  rcases ho.2 with hn | ⟨g, cap, cur, rfl, hb, hg, rest⟩
  · exact .inl hn
  · refine .inr ⟨g, cap, cur, rfl, hb, ?_, rest⟩
    rw [h.block g (Array.getElem?_eq_some_iff.1 hg).1 (hv g rfl)]
    exact hg

section
variable {P : Program} (w : World) {t e size bytes : Nat}
/-- append onto a slice of the call's own: its row is the old one, or new. -/
theorem app_own2 {ops : Array Oper} {rest : List Oper} {o : Oper} {a : Act} {Q : Exit → Act → World → Prop} (E : Elem P t e size bytes) (hgd : o.guard = none) (s x : Operand)
    (ho : o.op = .call { callee := .builtin .append, args := #[s, x], argTypes := #[t, t] })
    (base : Nat) (v : Value) (n : Nat) (xs : List Value) (hs : a.eval s = v) (hown : w.ownsRow base e size v n xs)
    (vx : Value) (m : Nat) (news : List Value) (hx : a.eval x = vx) (hr : Rd w size vx m news) (h1 : ∀ u ∈ news, u.oneCell' = true)
    (h63 : n + m ≤ maxLen) (hbytes : (n + m) * bytes ≤ 140737488355328) (hbase : base ≤ w.heap.size)
    (h : ∀ v' w', w'.ownsRow base e size v' (n + m) (xs ++ news) → w.grownBy w' v.ownBlock → (∀ k, v'.ownBlock = some k → v.ownBlock = some k ∨ w.heap.size ≤ k) → wpList P ops Q rest (a.put o.dst v') w') : wpList P ops Q (o :: rest) a w := by
  rcases hown.2 with ⟨rfl, rfl⟩ | ⟨g, cap, cur, rfl, hb, hg, hnc, hcm, hcs, ht⟩
  · have hxs : xs = [] := List.eq_nil_of_length_eq_zero (by simpa using hown.1)
    subst hxs
    refine app_own w E hgd s x ho w.heap.size _ 0 [] hs (World.ownsRow_nil _ _ _ _) vx m news hx hr h1 h63 hbytes (Nat.le_refl _) fun v' w' h2 h3 => h v' w' (owns_mono h2 hbase) h3 fun k hk => .inr (h2.lt k hk).1
  · obtain ⟨i, z, hi, hz, hsi, hby, hzs⟩ := E.info
    obtain ⟨hl, ad, capx, rfl, c1, c2, c3, c4⟩ := hr
    by_cases hroom : n + m ≤ cap
    · refine wpList_append_fits_any w hgd s x t ho base e i size E.und hi hsi g n cap xs hs hown ad m capx news hx hl (fun ha => ⟨by have := c3 ha; omega, c3 ha⟩) ?_ h1 hroom fun w' h2 h3 => h _ w' h2 h3 fun k hk => .inl hk
      intro ad' had j u hu
      have hm : 0 < m := by
        rcases Nat.eq_zero_or_pos m with h0 | h0
        · subst h0
          obtain rfl : news = [] := List.eq_nil_of_length_eq_zero (by simpa using hl)
          simp at hu
        · exact h0
      obtain ⟨b, off, e1, hc⟩ := c4 hm
      rw [had] at e1; cases e1
      rw [Addr.add_lit]; exact hc j u hu
    · have hm : 0 < m := by omega
      obtain ⟨b, off, rfl, hc⟩ := c4 hm
      refine wpList_append_grows w hgd s x t ho e i z size bytes E.und hi hz hsi hby hzs E.pos (some ⟨g, 0, none⟩) n cap xs hs (by simp) hown.1 ?_ _ m capx news hx hl (fun j u hu => by rw [Addr.add_lit]; exact hc j u hu) h1 (by omega) h63 hbytes fun v' w' h2 h3 => ?_
      · intro bb hbb j u hu
        cases hbb
        exact hown.cells (g := g) rfl j u hu
      · refine h v' w' (owns_mono h2 hbase) ⟨h3.os, h3.tape, h3.output, h3.size, fun k hk _ => h3.block k hk (by simp)⟩ fun k hk => .inr (h2.lt k hk).1
end
theorem owns_some {w : World} {base e size n : Nat} {v : Value} {cs : List Value} (h : w.ownsRow base e size v n cs) (hn : 0 < n) : ∃ g cap, v = .slice (some ⟨g, 0, none⟩) n cap ∧ base ≤ g ∧ g < w.heap.size ∧ n ≤ cap ∧ cap ≤ 9223372036854775807 := by
  rcases h.2 with ⟨_, h0⟩ | ⟨g, cap, cur, hv, hb, hg, h1, h2, _⟩
  · omega
  · exact ⟨g, cap, hv, hb, (Array.getElem?_eq_some_iff.1 hg).1, h1, by simpa [maxLen] using h2⟩
theorem owns_set_other {w : World} {base e size n : Nat} {v : Value} {cs : List Value} (h : w.ownsRow base e size v n cs) (p : Addr) (u : Value) (hp : v.ownBlock ≠ some p.block) : (w.setCell p u).ownsRow base e size v n cs :=
  (Fr.setCell (Fr.refl (fun k => k = p.block) w) (.inr rfl) u).owns h fun k hk hf => hp (by rw [hk, hf])
theorem blk_set_other {w : World} {g : Nat} {o : Obj} (h : w.heap[g]? = some o) (p : Addr) (u : Value) (hp : g ≠ p.block) : (w.setCell p u).heap[g]? = some o := by rw [Below.heap_setCell w p u g hp]; exact h
theorem blk_grown {w w' : World} {g : Nat} {o : Obj} {row : Option Nat} (h : w.heap[g]? = some o) (hg : w.grownBy w' row) (hne : row ≠ some g) : w'.heap[g]? = some o := by
  rw [hg.block g (Array.getElem?_eq_some_iff.1 h).1 (fun e => hne e.symm)]; exact h
theorem blk_alloc {w : World} {g : Nat} {o : Obj} (h : w.heap[g]? = some o) (o' : Obj) : (w.alloc o').heap[g]? = some o := by
  rw [Below.heap_alloc w o' g (Array.getElem?_eq_some_iff.1 h).1]; exact h
end Go.Waf

/- The stack machine: must (a fault, or nothing). -/
namespace Go.Proofs.Ytgkdphnhfjjepaa
open Go.RowKit Go.Waf
set_option maxRecDepth 100000
set_option linter.unusedVariables false

/-- What a fault panics with. -/
def faultP : List PanicEntry := [{ v := .iface 84 (.agg #[]), recovered := false }]

theorem must_ok (w : World) : Calls Try.prog 49 #[.bool true] w fun e w' => e = .returned (.tuple #[]) ∧ w' = w := by
  go_enter Try.func49, Try.ntmps49
  go_wp2_with fail
  go_end0
  exact ⟨rfl, rfl⟩

theorem must_no (w : World) : Calls Try.prog 49 #[.bool false] w fun e w' => e = .panicked faultP ∧ w' = w := by
  go_enter Try.func49, Try.ntmps49
  go_wp2_with fail
  exact ⟨rfl, rfl, rfl⟩
end Go.Proofs.Ytgkdphnhfjjepaa

/- The stack machine: pop, push, place: on bare cells. -/
namespace Go.Proofs.Ytgkdphnhfjjepaa
open Go.RowKit Go.Waf
set_option maxRecDepth 100000
set_option linter.unusedVariables false

theorem pop_no (a : Option Addr) (c q : Nat) (w : World) (c3 : w.cell? ⟨q, 3, none⟩ = some (.slice a 0 c)) : Calls Try.prog 63 #[.pointer (some ⟨q, 0, none⟩)] w fun e w' => e = .panicked faultP ∧ w' = w := by
  go_enter Try.func63, Try.ntmps63
  go_wp2_with (first | (go_at_call 49; refine (must_no _).mono ?_; rintro e w1 ⟨rfl, rfl⟩) | fail)
  all_goals exact ⟨rfl, rfl, rfl⟩

theorem pop_ok (q g n N c : Nat) (x : Int) (w : World) (hN : N = n + 1) (c3 : w.cell? ⟨q, 3, none⟩ = some (.slice (some ⟨g, 0, none⟩) N c)) (hz : w.frozen? ⟨q, 3, none⟩ = false) (cx : w.cell? ⟨g, n, none⟩ = some (.int .i32 x)) (hc : N ≤ c) (hn : n < 1000) :
    Calls Try.prog 63 #[.pointer (some ⟨q, 0, none⟩)] w fun e w' => e = .returned (.int .i32 x) ∧ ∃ m, w' = (w.drewN m).setCell ⟨q, 3, none⟩ (.slice (some ⟨g, 0, none⟩) n c) := by
  have h1 : (0 : Int) ≤ (n : Int) := by omega
  have h2 : (n : Int) < (N : Int) := by omega
  have h3 : IntKind.i64.wrap ((N : Int) - 1) = n := by rw [show (N : Int) - 1 = n by omega]; exact IntWalk.i64_in _ (by omega)
  have h4 : (0 : Int) < (N : Int) := by omega
  have h5 : (n : Int) ≤ (c : Int) := by omega
  have h6 : ¬ c = 0 := by omega
  have h7 : 0 < c := by omega
  have h8 : n ≤ c := by omega
  have h9 : 0 < N := by omega
  clear hN
  go_enter Try.func63, Try.ntmps63
  go_wp2_with (first | (go_at_call 49; refine (must_ok _).mono ?_; rintro e w1 ⟨rfl, rfl⟩) | go_quiet (fail) | fail)
  go_region_with (fail)
  all_goals (go_wp2_with fail)
  all_goals go_ret
  all_goals exact ⟨rfl, _, rfl⟩

theorem place_ok (q g n c : Nat) (a1 : Option Addr) (p k : Int) (w : World) (c1 : w.cell? ⟨q, 1, none⟩ = some (.slice a1 n c)) (hp0 : 0 ≤ p) (hp1 : p ≤ 2147483647) (hk0 : 0 ≤ k) (hk1 : k ≤ 2147483647) (hn : n ≤ 1048576) (hk : k ≤ (n : Int) - p) :
    Calls Try.prog 68 #[.pointer (some ⟨q, 0, none⟩), .int .i32 p, .int .i64 k] w fun e w' => e = .returned (.int .i64 p) ∧ ∃ m, w' = w.drewN m := by
  have e1 : IntKind.i64.wrap p = p := IntWalk.i64_in _ (by omega)
  have e2 : IntKind.i64.wrap ((n : Int) - p) = n - p := IntWalk.i64_in _ (by omega)
  have h1 : k ≤ IntKind.i64.wrap ((n : Int) - IntKind.i64.wrap p) := by rw [e1, e2]; exact hk
  go_enter Try.func68, Try.ntmps68
  go_wp2_with (first | (go_at_call 49; refine (must_ok _).mono ?_; rintro e w1 ⟨rfl, rfl⟩) | fail)
  all_goals go_ret
  all_goals exact ⟨rfl, 0, rfl⟩

theorem place_no (q g n c : Nat) (a1 : Option Addr) (p k : Int) (w : World) (c1 : w.cell? ⟨q, 1, none⟩ = some (.slice a1 n c)) (hp1 : p ≤ 2147483647) (hp0 : -2147483648 ≤ p) (hk0 : -2147483648 ≤ k) (hk1 : k ≤ 2147483647) (hn : n ≤ 1048576) (hk : ¬ (0 ≤ p ∧ 0 ≤ k ∧ k ≤ (n : Int) - p)) :
    Calls Try.prog 68 #[.pointer (some ⟨q, 0, none⟩), .int .i32 p, .int .i64 k] w fun e w' => e = .panicked faultP ∧ ∃ m, w' = w.drewN m := by
  have e1 : IntKind.i64.wrap p = p := IntWalk.i64_in _ (by omega)
  have e2 : IntKind.i64.wrap ((n : Int) - p) = n - p := IntWalk.i64_in _ (by omega)
  by_cases hp : 0 ≤ p
  · by_cases hq : 0 ≤ k
    · have h1 : ¬ k ≤ (n : Int) - p := by omega
      go_enter Try.func68, Try.ntmps68
      go_wp2_with (first | (go_at_call 49; refine (must_no _).mono ?_; rintro e w1 ⟨rfl, rfl⟩) | fail)
      all_goals exact ⟨rfl, rfl, 0, rfl⟩
    · go_enter Try.func68, Try.ntmps68
      go_wp2_with (first | (go_at_call 49; refine (must_no _).mono ?_; rintro e w1 ⟨rfl, rfl⟩) | fail)
      all_goals exact ⟨rfl, rfl, 0, rfl⟩
  · go_enter Try.func68, Try.ntmps68
    go_wp2_with (first | (go_at_call 49; refine (must_no _).mono ?_; rintro e w1 ⟨rfl, rfl⟩) | fail)
    all_goals exact ⟨rfl, rfl, 0, rfl⟩
end Go.Proofs.Ytgkdphnhfjjepaa

/- The stack machine: push, truth. -/
namespace Go.Proofs.Ytgkdphnhfjjepaa
open Go.RowKit Go.Waf
set_option maxRecDepth 100000
set_option linter.unusedVariables false

def i32s (l : List Int) : List Value := l.map (Value.int .i32)
theorem elemI32 : Elem Try.prog 33 21 1 4 := Elem.mk' (z := .int .i32 0) Try.underlying33 (by kernel_rfl) rfl (by decide)
theorem i32s_one (x : Int) : ∀ u ∈ i32s [x], u.oneCell' = true := by
  intro u hu; obtain ⟨n, _, rfl⟩ := List.mem_map.1 hu; rfl

theorem push_no (q N c : Nat) (a : Option Addr) (x : Int) (w : World) (c3 : w.cell? ⟨q, 3, none⟩ = some (.slice a N c)) (hN : 1000 ≤ N) : Calls Try.prog 64 #[.pointer (some ⟨q, 0, none⟩), .int .i32 x] w fun e w' => e = .panicked faultP ∧ w' = w := by
  have h1 : ¬ (N : Int) < 1000 := by omega
  go_enter Try.func64, Try.ntmps64
  go_wp2_with (first | (go_at_call 49; refine (must_no _).mono ?_; rintro e w1 ⟨rfl, rfl⟩) | fail)
  all_goals exact ⟨rfl, rfl, rfl⟩

theorem push_ok (q N c B : Nat) (a : Option Addr) (ops : List Int) (x : Int) (w : World) (c3 : w.cell? ⟨q, 3, none⟩ = some (.slice a N c)) (hz : w.frozen? ⟨q, 3, none⟩ = false) (ho : w.ownsRow B 21 1 (.slice a N c) N (i32s ops)) (hB : B ≤ w.heap.size) (hq : ∀ k, (Value.slice a N c).ownBlock = some k → k ≠ q) (hN : N < 1000) :
    Calls Try.prog 64 #[.pointer (some ⟨q, 0, none⟩), .int .i32 x] w fun e w' => e = .returned (.tuple #[]) ∧ ∃ w1 v1, w' = w1.setCell ⟨q, 3, none⟩ v1 ∧ w1.ownsRow B 21 1 v1 (N + 1) (i32s (ops ++ [x])) ∧ Fr (fun k => (Value.slice a N c).ownBlock = some k) w w1 ∧ (∀ k, v1.ownBlock = some k → (Value.slice a N c).ownBlock = some k ∨ w.heap.size ≤ k) := by
  have h1 : (N : Int) < 1000 := by omega
  have hql : q < w.heap.size := World.block_lt_of_cell? w _ c3
  have HO := Lib.hid ho
  have HQ := Lib.hid hq
  clear ho hq
  go_enter Try.func64, Try.ntmps64
  go_upto_region 1 with (first | (go_at_call 49; refine (must_ok _).mono ?_; rintro e w1 ⟨rfl, rfl⟩))
  go_wp2_with (at_builtin; refine app_own2 _ elemI32 rfl _ _ rfl B (.slice a N c) N (i32s ops) rfl ((Fr.alloc (Fr.refl (fun _ => False) _) _).owns HO.out (fun _ _ h => h)) (.slice (some ⟨w1.heap.size, 0, none⟩) 1 1) 1 (i32s [x]) rfl (rd_new _ (i32s [x]) _ 1 1 rfl (by simp [maxLen])) (i32s_one x) (by simp only [maxLen]; omega) (by omega) (by simp; omega) ?_; intro v2 w2 ho2 hg2 hs2; have hne : some q ≠ (Value.slice a N c).ownBlock := (fun e => HQ.out q e.symm rfl); have c3w : (w1.alloc (.cells #[.int .i32 x] 21)).cell? ⟨q, 3, none⟩ = some (.slice a N c) := (World.grownBy_alloc w1 _ none).cell c3 (by simp); have c3' := hg2.cell c3w hne; have f3' : w2.frozen? ⟨q, 3, none⟩ = false := (World.frozen?_of_block (hg2.block q (Nat.lt_of_lt_of_le hql (World.grownBy_alloc w1 _ none).size) hne)).trans ((World.frozen?_of_block ((World.grownBy_alloc w1 _ none).block q hql (by simp))).trans hz); obtain ⟨a2, cc2, rfl, k1, k2, k3⟩ := owns_shape ho2)
  go_end0
  refine ⟨rfl, w2, _, rfl, ?_, ?_, ?_⟩
  · simpa [i32s] using ho2
  · exact ((Fr.refl _ _).alloc _).trans (Fr.of_grown hg2 (fun _ h => h)) (fun _ _ h => h)
  · intro k hk; exact (hs2 k hk).imp id (fun h => Nat.le_trans (World.grownBy_alloc w1 (.cells #[.int .i32 x] 21) none).size h)
end Go.Proofs.Ytgkdphnhfjjepaa

/- Plain lemmas on machine integers, with no program in sight. -/
namespace Go.Waf
open Go.RowKit

theorem u64_mod (n : Int) : IntKind.u64.wrap n = n % 18446744073709551616 := by simp [IntKind.wrap, IntKind.bits, IntKind.signed]
theorem u32_mod (n : Int) : IntKind.u32.wrap n = n % 4294967296 := by simp [IntKind.wrap, IntKind.bits, IntKind.signed]
theorem u8_mod (n : Int) : IntKind.u8.wrap n = n % 256 := by simp [IntKind.wrap, IntKind.bits, IntKind.signed]

/-- A mask of the lowest j bits, whatever number it is laid over. -/
theorem mask (k : IntKind) (j : Nat) (hj : j ≤ k.bits) (hs : k.signed = false ∨ j < k.bits) (x : Int) : bits .and k x (2 ^ j - 1) = x % 2 ^ j := by
  have hpj := Nat.two_pow_pos j
  have hpj' : (0 : Int) < 2 ^ j := by exact_mod_cast hpj
  have hp : (2:Int) ^ j ≤ 2 ^ k.bits := by exact_mod_cast Nat.pow_le_pow_right (n := 2) (by decide) hj
  have hpn : 2 ^ j ≤ 2 ^ k.bits := Nat.pow_le_pow_right (by decide) hj
  have h1 : BitVec.ofInt k.bits (2 ^ j - 1) = BitVec.ofNat k.bits (2 ^ j - 1) := by
    have : ((2:Int) ^ j - 1) = ((2 ^ j - 1 : Nat) : Int) := by
      rw [Int.natCast_sub hpj]; simp
    rw [this, BitVec.ofInt_natCast]
  have hk : (2 : Nat) ^ j ∣ 2 ^ k.bits := Nat.pow_dvd_pow 2 hj
  have hk' : (2 : Int) ^ j ∣ 2 ^ k.bits := by exact_mod_cast hk
  have h0 : 0 ≤ x % (2:Int) ^ j := Int.emod_nonneg _ (by omega)
  have h3 : x % (2:Int) ^ j < 2 ^ j := Int.emod_lt_of_pos _ hpj'
  have h2 : (((BitVec.ofInt k.bits x &&& BitVec.ofInt k.bits (2 ^ j - 1)).toNat : Nat) : Int) = x % 2 ^ j := by
    rw [h1, BitVec.toNat_and, BitVec.toNat_ofNat, Nat.mod_eq_of_lt (by omega), Nat.and_two_pow_sub_one_eq_mod, BitVec.toNat_ofInt]
    have hq : 0 ≤ x % ((2 ^ k.bits : Nat) : Int) := Int.emod_nonneg _ (by have := Nat.two_pow_pos k.bits; omega)
    rw [Int.natCast_emod, Int.toNat_of_nonneg hq]
    push_cast
    exact Int.emod_emod_of_dvd x hk'
  simp only [bits]
  rw [h2]
  simp only [IntKind.wrap]
  rw [Int.emod_eq_of_lt h0 (by omega)]
  rcases hs with hs | hs
  · simp [hs]
  · have : (2:Int) ^ j ≤ 2 ^ (k.bits - 1) := by exact_mod_cast Nat.pow_le_pow_right (n := 2) (by decide) (show j ≤ k.bits - 1 by omega)
    rw [if_neg]
    simp; omega
theorem mask31_u64 (x : Int) : bits .and .u64 x 31 = x % 32 := mask .u64 5 (by decide) (by decide) x
theorem mask31_u32 (x : Int) : bits .and .u32 x 31 = x % 32 := mask .u32 5 (by decide) (by decide) x
theorem mask31_i32 (x : Int) : bits .and .i32 x 31 = x % 32 := mask .i32 5 (by decide) (by decide) x
theorem mask63_i32 (x : Int) : bits .and .i32 x 63 = x % 64 := mask .i32 6 (by decide) (by decide) x
theorem mask1_i32 (x : Int) : bits .and .i32 x 1 = x % 2 := mask .i32 1 (by decide) (by decide) x
theorem mask1_u64 (x : Int) : bits .and .u64 x 1 = x % 2 := mask .u64 1 (by decide) (by decide) x
theorem mask1_u8 (x : Int) : bits .and .u8 x 1 = x % 2 := mask .u8 1 (by decide) (by decide) x
theorem mask63_u8 (x : Int) : bits .and .u8 x 63 = x % 64 := mask .u8 6 (by decide) (by decide) x
theorem mask127_u8 (x : Int) : bits .and .u8 x 127 = x % 128 := mask .u8 7 (by decide) (by decide) x
theorem wrap_u64_mod (n : Int) : IntKind.u64.wrap n % 32 = n % 32 := by rw [u64_mod]; omega
theorem wrap_u32_mod (n : Int) : IntKind.u32.wrap n % 32 = n % 32 := by rw [u32_mod]; omega
theorem wrap_u64_mod32 (n : Int) : (IntKind.u64.wrap n).tmod 32 = n % 32 := by
  rw [u64_mod, Int.tmod_eq_emod_of_nonneg (by omega)]
  omega

/-! ### Numbers of so many bits, as bit vectors -/
theorem or_u32 (x y : Int) : bits .or .u32 x y = ((BitVec.ofInt 32 x ||| BitVec.ofInt 32 y).toNat : Int) := by
  show IntKind.u32.wrap ((BitVec.ofInt 32 x ||| BitVec.ofInt 32 y).toNat : Int) = _
  rw [u32_mod]
  exact Int.emod_eq_of_lt (by omega) (by have := (BitVec.ofInt 32 x ||| BitVec.ofInt 32 y).isLt; omega)
theorem wrap32_ofInt (n : Int) : wrap32 n = (BitVec.ofInt 32 n).toInt := by
  rw [BitVec.toInt_ofInt]; unfold wrap32 Int.bmod; simp only [show ((2 ^ 32 : Nat) : Int) = 4294967296 from rfl]; split <;> omega
theorem ofInt_toNat (x : BitVec 32) : BitVec.ofInt 32 (x.toNat : Int) = x := by simp
theorem mod_mul_eq (a b : Int) : a % 4294967296 * b % 4294967296 = a * b % 4294967296 := by
  rw [Int.mul_emod, Int.emod_emod_of_dvd a (Int.dvd_refl _), ← Int.mul_emod]
theorem ofInt_shl (a : Int) (k : Nat) : BitVec.ofInt 32 (a * 2 ^ k % 4294967296) = BitVec.ofInt 32 a <<< k := by
  apply BitVec.eq_of_toNat_eq
  rw [BitVec.toNat_shiftLeft, BitVec.toNat_ofInt, BitVec.toNat_ofInt, Nat.shiftLeft_eq]
  apply Int.ofNat.inj
  show ((_ : Nat) : Int) = ((_ : Nat) : Int)
  have e32 : ((2 ^ 32 : Nat) : Int) = 4294967296 := rfl
  rw [Int.natCast_emod, Int.natCast_mul, e32, Int.toNat_of_nonneg (Int.emod_nonneg _ (by decide)), Int.toNat_of_nonneg (Int.emod_nonneg _ (by decide)), Int.natCast_pow]
  rw [Int.emod_emod_of_dvd _ (by decide)]
  show a * (2:Int) ^ k % 4294967296 = a % 4294967296 * (2:Int) ^ k % 4294967296
  exact (mod_mul_eq a _).symm
theorem ofInt_shr (a : Int) (h0 : 0 ≤ a) (h : a < 4294967296) (k : Nat) : BitVec.ofInt 32 (a / 2 ^ k) = BitVec.ofInt 32 a >>> k := by
  obtain ⟨n, rfl⟩ := Int.eq_ofNat_of_zero_le h0
  apply BitVec.eq_of_toNat_eq
  have hp := Nat.two_pow_pos k
  have hd : n / 2 ^ k ≤ n := Nat.div_le_self _ _
  have hc : ((n : Int) / 2 ^ k) = ((n / 2 ^ k : Nat) : Int) := by push_cast; rfl
  rw [BitVec.toNat_ushiftRight, Nat.shiftRight_eq_div_pow, hc, BitVec.ofInt_natCast, BitVec.ofInt_natCast, BitVec.toNat_ofNat, BitVec.toNat_ofNat, Nat.mod_eq_of_lt (by omega), Nat.mod_eq_of_lt (by omega)]
theorem ofInt_mod (a : Int) : BitVec.ofInt 32 (a % 4294967296) = BitVec.ofInt 32 a := by
  apply BitVec.eq_of_toNat_eq
  rw [BitVec.toNat_ofInt, BitVec.toNat_ofInt]
  congr 1
  exact Int.emod_emod_of_dvd a (by decide)
theorem toInt_ofInt_i32 (a : Int) (h0 : -2147483648 ≤ a) (h : a < 2147483648) : (BitVec.ofInt 32 a).toInt = a := by
  rw [← wrap32_ofInt]; unfold wrap32; omega

/-- The bits of a number of 32, moved round to the right. -/
def ror (a n : Int) : Int := ((BitVec.ofInt 32 a).rotateRight (n % 32).toNat).toInt

theorem rotr (x : BitVec 32) (k : Nat) (hk : k < 32) : x.rotateRight k = x >>> k ||| x <<< (32 - k) := by
  rw [BitVec.rotateRight_def, Nat.mod_eq_of_lt hk]
theorem rotl (x : BitVec 32) (k : Nat) (hk : k < 32) : x <<< ((32 - k) % 32) ||| x >>> (32 - (32 - k) % 32) = x.rotateRight k := by
  rw [rotr x k hk]
  by_cases h : k = 0
  · subst h; simp; exact BitVec.ushiftRight_eq_zero (Nat.le_refl 32) ▸ BitVec.or_zero
  · rw [Nat.mod_eq_of_lt (by omega), show 32 - (32 - k) = k by omega, BitVec.or_comm]
theorem rot_back (x : BitVec 32) (k : Nat) (hk : k < 32) : (x.rotateRight k).rotateRight ((32 - k) % 32) = x := by
  have h := fun i => BitVec.getLsbD_rotateRight (x := x) (r := k) (i := i)
  apply BitVec.eq_of_getLsbD_eq
  intro i hi
  rw [BitVec.getLsbD_rotateRight, Nat.mod_eq_of_lt (Nat.mod_lt _ (by decide))]
  by_cases hk0 : k = 0
  · subst hk0; simp [hi, h]
  · rw [Nat.mod_eq_of_lt (show 32 - k < 32 by omega), h, h, Nat.mod_eq_of_lt hk]
    have e1 : 32 - (32 - k) = k := by omega
    rw [e1]
    by_cases hik : i < k
    · rw [show decide (i < k) = true from by simp [hik], show decide (32 - k + i < 32 - k) = false from by simp]
      simp only [cond_true, cond_false]
      rw [show decide (32 - k + i < 32) = true from by simp; omega, Bool.true_and]
      congr 1; omega
    · rw [show decide (i < k) = false from by simp; omega, show decide (i - k < 32 - k) = true from by simp; omega]
      simp only [cond_true, cond_false]
      rw [show decide (i < 32) = true from by simp [hi], Bool.true_and]
      congr 1; omega
end Go.Waf
namespace Go.Waf
open Go.RowKit
theorem div_bounds (a b : Int) (hb : 1 ≤ b) (h0 : -2147483648 ≤ a) (h1 : a ≤ 2147483647) : -2147483648 ≤ a / b ∧ a / b ≤ 2147483647 :=
  ⟨Int.le_ediv_of_mul_le (by omega) (by omega), Int.ediv_le_of_le_mul (by omega) (by omega)⟩
/-- Go's quotient, mended where the remainder is below nought, is the quotient rounded down. -/
theorem tdiv_floor (a b : Int) (hb : 1 ≤ b) (h0 : -2147483648 ≤ a) (h1 : a ≤ 2147483647) :
    (a.tmod b < 0 → wrap32 (wrap32 (a.tdiv b) - 1) = a / b) ∧ (0 ≤ a.tmod b → wrap32 (a.tdiv b) = a / b) := by
  have hp : 0 ≤ a % b := Int.emod_nonneg _ (by omega)
  have hl : a % b < b := Int.emod_lt_of_pos _ (by omega)
  have hq := div_bounds a b hb h0 h1
  have hd := @Int.tdiv_eq_ediv a b
  have hm := @Int.tmod_eq_emod a b
  have hs : b.sign = 1 := Int.sign_eq_one_of_pos (by omega)
  by_cases hc : 0 ≤ a ∨ b ∣ a
  · rw [if_pos hc] at hd hm
    refine ⟨fun h => by omega, fun _ => ?_⟩
    rw [hd, IntWalk.wrap32_in _ (by omega)]; omega
  · rw [if_neg hc] at hd hm
    refine ⟨fun _ => ?_, fun h => by omega⟩
    rw [hd, hs]
    have hneg : a < 0 := by omega
    have : a / b < 0 := Int.ediv_neg_of_neg_of_pos hneg (by omega)
    rw [IntWalk.wrap32_in (a / b + 1) (by omega), IntWalk.wrap32_in _ (by omega)]; omega
theorem tmod_floor (a b : Int) (hb : 1 ≤ b) (hb' : b ≤ 2147483647) :
    (a.tmod b < 0 → wrap32 (a.tmod b + b) = a % b) ∧ (0 ≤ a.tmod b → a.tmod b = a % b) := by
  have hp : 0 ≤ a % b := Int.emod_nonneg _ (by omega)
  have hl : a % b < b := Int.emod_lt_of_pos _ (by omega)
  have hm := @Int.tmod_eq_emod a b
  by_cases hc : 0 ≤ a ∨ b ∣ a
  · rw [if_pos hc] at hm
    exact ⟨fun h => by omega, fun _ => by omega⟩
  · rw [if_neg hc] at hm
    refine ⟨fun _ => ?_, fun h => by omega⟩
    rw [hm, IntWalk.wrap32_in _ (by omega)]; omega

theorem wrap32_wrap64 (n : Int) : wrap32 (wrap64 n) = wrap32 n := by unfold wrap32 wrap64; omega
theorem wrap32_sub (x y : Int) : wrap32 (wrap32 x - y) = wrap32 (x - y) := by unfold wrap32; omega
theorem wrap32_u32 (n : Int) : wrap32 (n % 4294967296) = wrap32 n := by unfold wrap32; omega
theorem wrap32_wrap32 (n : Int) : wrap32 (wrap32 n) = wrap32 n := by unfold wrap32; omega
theorem wrap32_le (n : Int) : -2147483648 ≤ wrap32 n ∧ wrap32 n ≤ 2147483647 := by unfold wrap32; omega

theorem i32_wrap (n : Int) : IntKind.i32.wrap n = (BitVec.ofInt 32 n).toInt := by rw [IntWalk.i32_left, wrap32_ofInt]
theorem or_i32 (x y : Int) : bits .or .i32 x y = (BitVec.ofInt 32 x ||| BitVec.ofInt 32 y).toInt := by
  show IntKind.i32.wrap ((BitVec.ofInt 32 x ||| BitVec.ofInt 32 y).toNat : Int) = _
  rw [i32_wrap, ofInt_toNat]
theorem and_i32 (x y : Int) : bits .and .i32 x y = (BitVec.ofInt 32 x &&& BitVec.ofInt 32 y).toInt := by
  show IntKind.i32.wrap ((BitVec.ofInt 32 x &&& BitVec.ofInt 32 y).toNat : Int) = _
  rw [i32_wrap, ofInt_toNat]
theorem toInt_i32 (x : BitVec 32) : -2147483648 ≤ x.toInt ∧ x.toInt ≤ 2147483647 := by
  have := wrap32_le x.toInt
  rwa [wrap32_ofInt, BitVec.ofInt_toInt] at this
theorem bit0 (y : BitVec 32) : (y.toInt % 2 == 1) = y.getLsbD 0 := by
  rw [← BitVec.testBit_toNat, Nat.testBit_zero, BitVec.toInt_eq_toNat_cond]
  rw [Bool.eq_iff_iff]
  simp only [beq_iff_eq, decide_eq_true_eq]
  have e32 : ((2 ^ 32 : Nat) : Int) = 4294967296 := rfl
  rw [e32]
  split <;> omega
theorem bitAt (x : BitVec 32) (k : Nat) (hk : k < 32) : (x.toInt / 2 ^ k % 2 == 1) = x.getLsbD k := by
  have h := @BitVec.toInt_sshiftRight 32 x k
  rw [Int.shiftRight_eq_div_pow] at h
  have e : x.toInt / 2 ^ k = (x.sshiftRight k).toInt := by rw [h]; simp
  rw [e, bit0, BitVec.getLsbD_sshiftRight]
  simp [hk]
/-- Is n one of 0 to 31, and is that bit of s set? -/
def hasBit (n s : Int) : Bool := decide (0 ≤ n) && decide (n < 32) && (s / 2 ^ n.toNat % 2 == 1)
theorem hasBit_in (n s : Int) (h0 : 0 ≤ n) (h1 : n < 32) : hasBit n s = (s / 2 ^ n.toNat % 2 == 1) := by simp [hasBit, h0, h1]
theorem hasBit_out (n s : Int) (h : ¬ (0 ≤ n ∧ n < 32)) : hasBit n s = false := by
  unfold hasBit
  by_cases h0 : 0 ≤ n
  · simp [h0, show ¬ n < 32 by omega]
  · simp [h0]
theorem pow_twoPow (k : Nat) : BitVec.ofInt 32 (2 ^ k) = BitVec.twoPow 32 k := by
  apply BitVec.eq_of_toNat_eq
  rw [BitVec.toNat_twoPow]
  have : ((2 : Int) ^ k) = ((2 ^ k : Nat) : Int) := by simp
  rw [this, BitVec.ofInt_natCast, BitVec.toNat_ofNat]
theorem andBit (s : Int) (k : Nat) (hk : k < 32) (h0 : -2147483648 ≤ s) (h1 : s ≤ 2147483647) : (bits .and .i32 s (wrap32 (2 ^ k)) != 0) = (s / 2 ^ k % 2 == 1) := by
  rw [and_i32, wrap32_ofInt, BitVec.ofInt_toInt, pow_twoPow, BitVec.and_twoPow]
  have e := bitAt (BitVec.ofInt 32 s) k hk
  rw [toInt_ofInt_i32 s h0 (by omega)] at e
  rw [e]
  cases hb : (BitVec.ofInt 32 s).getLsbD k
  · simp
  · simp only [if_true]
    have : BitVec.twoPow 32 k ≠ 0#32 := fun he => by
      have := congrArg (fun v => v.getLsbD k) he
      simp [hk] at this
    have h2 : (BitVec.twoPow 32 k).toInt ≠ (0#32).toInt := BitVec.toInt_ne.2 this
    rw [BitVec.toInt_zero] at h2
    simp [h2]
/-- The set of a and the k - 1 that follow. -/
def span (a : Nat) : Nat → BitVec 32
  | 0 => 0#32
  | k + 1 => span a k ||| BitVec.twoPow 32 (a + k)
theorem span_bit (a k i : Nat) (h : a + k ≤ 32) : (span a k).getLsbD i = (decide (a ≤ i) && decide (i < a + k)) := by
  induction k with
  | zero => simp [span]
  | succ k ih =>
    rw [span, BitVec.getLsbD_or, ih (by omega), BitVec.getLsbD_twoPow]
    rw [Bool.eq_iff_iff]; simp; omega
theorem span_step (a k : Nat) : bits .or .i32 (span a k).toInt (wrap32 (2 ^ (a + k))) = (span a (k + 1)).toInt := by
  rw [or_i32, wrap32_ofInt, BitVec.ofInt_toInt, BitVec.ofInt_toInt, pow_twoPow, span]
theorem span_has (a k i : Nat) (h : a + k ≤ 32) (hi : i < 32) : hasBit i (span a k).toInt = (decide (a ≤ i) && decide (i < a + k)) := by
  rw [hasBit_in _ _ (by omega) (by omega), Int.toNat_natCast, bitAt _ _ hi, span_bit a k i h]
theorem rlsl_eq (a : Int) (k : Nat) : wrap32 (a % 4294967296 * 2 ^ k % 4294967296) = wrap32 (a * 2 ^ k) := by rw [mod_mul_eq, wrap32_u32]

theorem ror_left (a n : Int) : wrap32 (bits .or .u32 (a % 4294967296 * 2 ^ ((- (n % 32)) % 32).toNat % 4294967296) (a % 4294967296 / 2 ^ (32 - (- (n % 32)) % 32).toNat)) = ror a n := by
  have e1 : ((- (n % 32)) % 32).toNat = (32 - (n % 32).toNat) % 32 := by omega
  have e2 : (32 - (- (n % 32)) % 32).toNat = 32 - (32 - (n % 32).toNat) % 32 := by omega
  rw [or_u32, wrap32_ofInt, ofInt_toNat, ofInt_shl, ofInt_shr _ (by omega) (by omega), ofInt_mod, e1, e2, rotl _ _ (by omega), ror]
theorem ror_right (a n : Int) : wrap32 (bits .or .u32 (a % 4294967296 / 2 ^ (n % 32).toNat) (a % 4294967296 * 2 ^ (32 - n % 32).toNat % 4294967296)) = ror a n := by
  have e2 : (32 - n % 32).toNat = 32 - (n % 32).toNat := by omega
  rw [or_u32, wrap32_ofInt, ofInt_toNat, ofInt_shl, ofInt_shr _ (by omega) (by omega), ofInt_mod, e2, ← rotr _ _ (by omega), ror]
theorem ror_back (a n : Int) (h0 : -2147483648 ≤ a) (h : a < 2147483648) : ror (ror a n) (32 - n % 32) = a := by
  have e : ((32 - n % 32) % 32).toNat = (32 - (n % 32).toNat) % 32 := by omega
  rw [ror, ror, BitVec.ofInt_toInt, e, rot_back _ _ (by omega), toInt_ofInt_i32 a h0 h]

theorem divmod_back (a b : Int) (h0 : -2147483648 ≤ a) (h : a ≤ 2147483647) : wrap32 (wrap32 (a / b * b) + a % b) = a := by
  have := Int.mul_ediv_add_emod a b
  have e : a / b * b + a % b = a := by rw [Int.mul_comm]; exact this
  have h2 : wrap32 (wrap32 (a / b * b) + a % b) = wrap32 (a / b * b + a % b) := by unfold wrap32; omega
  rw [h2, e]; exact IntWalk.wrap32_in _ (by omega)

theorem rot_rot (x : BitVec 32) (p q : Nat) : (x.rotateRight p).rotateRight q = x.rotateRight ((p + q) % 32) := by
  apply BitVec.eq_of_getLsbD_eq
  intro i hi
  rw [BitVec.getLsbD_rotateRight, BitVec.getLsbD_rotateRight, BitVec.getLsbD_rotateRight, BitVec.getLsbD_rotateRight]
  have hp : p % 32 < 32 := Nat.mod_lt _ (by decide)
  have hq : q % 32 < 32 := Nat.mod_lt _ (by decide)
  have hs : (p + q) % 32 % 32 = (p % 32 + q % 32) % 32 := by omega
  rw [hs]
  generalize p % 32 = P at *
  generalize q % 32 = Q at *
  by_cases h1 : i < 32 - Q
  · rw [show decide (i < 32 - Q) = true from by simp [h1]]
    simp only [cond_true]
    by_cases h2 : Q + i < 32 - P
    · rw [show decide (Q + i < 32 - P) = true from by simp [h2]]
      simp only [cond_true]
      by_cases h3 : P + Q < 32
      · rw [Nat.mod_eq_of_lt h3, show decide (i < 32 - (P + Q)) = true from by simp; omega]
        simp only [cond_true]; congr 1; omega
      · omega
    · rw [show decide (Q + i < 32 - P) = false from by simp; omega, show decide (Q + i < 32) = true from by simp; omega]
      simp only [cond_false, Bool.true_and]
      by_cases h3 : P + Q < 32
      · rw [Nat.mod_eq_of_lt h3, show decide (i < 32 - (P + Q)) = false from by simp; omega, show decide (i < 32) = true from by simp [hi]]
        simp only [cond_false, Bool.true_and]; congr 1; omega
      · rw [show (P + Q) % 32 = P + Q - 32 by omega, show decide (i < 32 - (P + Q - 32)) = true from by simp; omega]
        simp only [cond_true]; congr 1; omega
  · rw [show decide (i < 32 - Q) = false from by simp; omega, show decide (i < 32) = true from by simp [hi]]
    simp only [cond_false, Bool.true_and]
    by_cases h2 : i - (32 - Q) < 32 - P
    · rw [show decide (i - (32 - Q) < 32 - P) = true from by simp [h2]]
      simp only [cond_true]
      by_cases h3 : P + Q < 32
      · rw [Nat.mod_eq_of_lt h3, show decide (i < 32 - (P + Q)) = false from by simp; omega]
        simp only [cond_false]; congr 1; omega
      · rw [show (P + Q) % 32 = P + Q - 32 by omega, show decide (i < 32 - (P + Q - 32)) = true from by simp; omega]
        simp only [cond_true]; congr 1; omega
    · rw [show decide (i - (32 - Q) < 32 - P) = false from by simp; omega, show decide (i - (32 - Q) < 32) = true from by simp; omega]
      simp only [cond_false, Bool.true_and]
      rw [show (P + Q) % 32 = P + Q - 32 by omega, show decide (i < 32 - (P + Q - 32)) = false from by simp; omega]
      simp only [cond_false]; congr 1; omega
/-- Moved round k times, each time by n. -/
def rorN (a n : Int) (k : Nat) : Int := ((BitVec.ofInt 32 a).rotateRight ((k * (n % 32).toNat) % 32)).toInt
theorem rorN_zero (a n : Int) (h0 : -2147483648 ≤ a) (h : a < 2147483648) : rorN a n 0 = a := by
  rw [rorN, Nat.zero_mul, Nat.zero_mod, rotr _ 0 (by decide)]
  have e : (BitVec.ofInt 32 a) >>> 0 ||| (BitVec.ofInt 32 a) <<< (32 - 0) = BitVec.ofInt 32 a := by
    simp
  rw [e, toInt_ofInt_i32 a h0 h]
theorem rorN_succ (a n : Int) (k : Nat) : ror (rorN a n k) n = rorN a n (k + 1) := by
  rw [ror, rorN, BitVec.ofInt_toInt, rot_rot, rorN, Nat.succ_mul]
  congr 2; omega
theorem rorN_full (a n : Int) (h0 : -2147483648 ≤ a) (h : a < 2147483648) : rorN a n 32 = a := by
  have : rorN a n 32 = rorN a n 0 := by rw [rorN, rorN]; congr 2; omega
  rw [this, rorN_zero a n h0 h]
theorem mask_i32 (x : Int) (k : Nat) (hk : k < 32) : bits .and .i32 x (2 ^ k - 1) = x % 2 ^ k := mask .i32 k (by simp [IntKind.bits]; omega) (.inr (by simpa [IntKind.bits] using hk)) x
theorem pow_le30 (k : Nat) (hk : k ≤ 30) : (1 : Int) ≤ 2 ^ k ∧ (2 : Int) ^ k ≤ 1073741824 := by
  have h1 : 2 ^ k ≤ 2 ^ 30 := Nat.pow_le_pow_right (by decide) hk
  have h2 := Nat.two_pow_pos k
  have e : ((2 : Int) ^ k) = ((2 ^ k : Nat) : Int) := by simp
  rw [e]
  omega
theorem span_union (a k m : Nat) : bits .or .i32 (span a k).toInt (span (a + k) m).toInt = (span a (k + m)).toInt := by
  rw [or_i32, BitVec.ofInt_toInt, BitVec.ofInt_toInt]
  congr 1
  induction m with
  | zero => simp [span]
  | succ m ih => rw [span, ← BitVec.or_assoc, ih, ← Nat.add_assoc, span, Nat.add_assoc]
theorem span_apart (a k m : Nat) (h : a + k + m ≤ 32) : bits .and .i32 (span a k).toInt (span (a + k) m).toInt = 0 := by
  rw [and_i32, BitVec.ofInt_toInt, BitVec.ofInt_toInt]
  have : span a k &&& span (a + k) m = 0#32 := by
    apply BitVec.eq_of_getLsbD_eq
    intro i hi
    rw [BitVec.getLsbD_and, span_bit _ _ _ (by omega), span_bit _ _ _ (by omega), BitVec.getLsbD_zero]
    simp; omega
  rw [this, BitVec.toInt_zero]
theorem or_zero_i32 (x : BitVec 32) : bits .or .i32 x.toInt 0 = x.toInt := by rw [or_i32, BitVec.ofInt_toInt]; simp
theorem and_zero_i32 (x : BitVec 32) : bits .and .i32 x.toInt 0 = 0 := by rw [and_i32, BitVec.ofInt_toInt]; simp

theorem rng_i32 {n : Int} (h : (Lit.int .i32 n).wf = true) : -2147483648 ≤ n ∧ n ≤ 2147483647 := by
  simp [Lit.wf, IntKind.min, IntKind.max, IntKind.signed, IntKind.bits] at h; exact h
theorem rng_u8 {n : Int} (h : (Lit.int .u8 n).wf = true) : 0 ≤ n ∧ n ≤ 255 := by
  simp [Lit.wf, IntKind.min, IntKind.max, IntKind.signed, IntKind.bits] at h; exact h
theorem rng_u16 {n : Int} (h : (Lit.int .u16 n).wf = true) : 0 ≤ n ∧ n ≤ 65535 := by
  simp [Lit.wf, IntKind.min, IntKind.max, IntKind.signed, IntKind.bits] at h; exact h
theorem rng_u32 {n : Int} (h : (Lit.int .u32 n).wf = true) : 0 ≤ n ∧ n ≤ 4294967295 := by
  simp [Lit.wf, IntKind.min, IntKind.max, IntKind.signed, IntKind.bits] at h; exact h
theorem rng_u64 {n : Int} (h : (Lit.int .u64 n).wf = true) : 0 ≤ n ∧ n ≤ 18446744073709551615 := by
  simp [Lit.wf, IntKind.min, IntKind.max, IntKind.signed, IntKind.bits] at h; exact h
theorem rng_i64 {n : Int} (h : (Lit.int .i64 n).wf = true) : -9223372036854775808 ≤ n ∧ n ≤ 9223372036854775807 := by
  simp [Lit.wf, IntKind.min, IntKind.max, IntKind.signed, IntKind.bits] at h; exact h
theorem rng_i16 {n : Int} (h : (Lit.int .i16 n).wf = true) : -32768 ≤ n ∧ n ≤ 32767 := by
  simp [Lit.wf, IntKind.min, IntKind.max, IntKind.signed, IntKind.bits] at h; exact h
theorem grown_same {P : Program} {f : FuncId} {args : Array Value} {w : World} {v : Value} (h : Calls P f args w fun e w' => e = .returned v ∧ w = w') : Calls P f args w fun e w' => e = .returned v ∧ Grown w w' :=
  h.mono fun _ _ ⟨he, hw⟩ => ⟨he, hw ▸ Grown.refl _⟩
theorem below_same {P : Program} {f : FuncId} {args : Array Value} {w : World} {v : Value} (h : Calls P f args w fun e w' => e = .returned v ∧ w = w') : Calls P f args w fun e w' => e = .returned v ∧ Below w.heap.size w w' :=
  h.mono fun _ _ ⟨he, hw⟩ => ⟨he, hw ▸ Below.refl _ _⟩
end Go.Waf

/- Contracts of package arith and of its references (the ones that the machine reaches): what each call returns; the world stays as it is. -/
namespace Go.Proofs.Ytgkdphnhfjjepaa
open Go.RowKit Go.Waf
attribute [local go_sem] mask31_u64 mask31_u32 mask31_i32 mask1_i32 wrap_u64_mod wrap_u64_mod32 wrap32_wrap64 wrap32_u32 wrap_u32_mod

theorem ret_int {k : IntKind} {a b : Int} (h : a = b) : Ending.returned (.int k a) = .returned (.int k b) := by rw [h]
theorem ret_bool {a b : Bool} (h : a = b) : Ending.returned (.bool a) = .returned (.bool b) := by rw [h]
theorem ret2_int {k : IntKind} {a b : Int} {t : Bool} (h : a = b) : Ending.returned (.tuple #[.int k a, .bool t]) = .returned (.tuple #[.int k b, .bool t]) := by rw [h]
theorem div_no (a b : Int) (w : World) (hb : b < 1) : Calls Try.prog 72 #[.int .i32 a, .int .i32 b] w fun e w' => e = .returned (.tuple #[.int .i32 0, .bool false]) ∧ w = w' := by
  go_enter Try.func72, Try.ntmps72
  go_wp2
  go_ret2
  exact ⟨rfl, rfl⟩
theorem div_yes (a b : Int) (w : World) (hb : 1 ≤ b) (h0 : -2147483648 ≤ a) (h1 : a ≤ 2147483647) : Calls Try.prog 72 #[.int .i32 a, .int .i32 b] w fun e w' => e = .returned (.tuple #[.int .i32 (a / b), .bool true]) ∧ w = w' := by
  have hq := tdiv_floor a b hb h0 h1
  go_enter Try.func72, Try.ntmps72
  go_wp2
  all_goals go_ret2
  · exact ⟨ret2_int (hq.1 (by assumption)), rfl⟩
  · exact ⟨ret2_int (hq.2 (by assumption)), rfl⟩
theorem mod_no (a b : Int) (w : World) (hb : b < 1) : Calls Try.prog 73 #[.int .i32 a, .int .i32 b] w fun e w' => e = .returned (.tuple #[.int .i32 0, .bool false]) ∧ w = w' := by
  go_enter Try.func73, Try.ntmps73
  go_wp2
  go_ret2
  exact ⟨rfl, rfl⟩
theorem mod_yes (a b : Int) (w : World) (hb : 1 ≤ b) (h1 : b ≤ 2147483647) : Calls Try.prog 73 #[.int .i32 a, .int .i32 b] w fun e w' => e = .returned (.tuple #[.int .i32 (a % b), .bool true]) ∧ w = w' := by
  have hq := tmod_floor a b hb h1
  go_enter Try.func73, Try.ntmps73
  go_wp2
  all_goals go_ret2
  · exact ⟨ret2_int (hq.1 (by assumption)), rfl⟩
  · exact ⟨ret2_int (hq.2 (by assumption)), rfl⟩
theorem rdiv_no (a b : Int) (w : World) (hb : b < 1) : Calls Try.prog 15 #[.int .i32 a, .int .i32 b] w fun e w' => e = .returned (.tuple #[.int .i32 0, .bool false]) ∧ w = w' := by
  go_enter Try.func15, Try.ntmps15
  go_wp2
  go_ret2
  exact ⟨rfl, rfl⟩
theorem rdiv_yes (a b : Int) (w : World) (hb : 1 ≤ b) (h0 : -2147483648 ≤ a) (h1 : a ≤ 2147483647) (h2 : b ≤ 2147483647) : Calls Try.prog 15 #[.int .i32 a, .int .i32 b] w fun e w' => e = .returned (.tuple #[.int .i32 (a / b), .bool true]) ∧ w = w' := by
  have hq := tdiv_floor a b hb h0 h1
  go_enter Try.func15, Try.ntmps15
  go_wp2
  all_goals go_ret2
  · exact ⟨ret2_int (by rw [wrap32_wrap64, ← wrap32_sub]; exact hq.1 (by assumption)), rfl⟩
  · exact ⟨ret2_int (hq.2 (by assumption)), rfl⟩
theorem rmod_no (a b : Int) (w : World) (hb : b < 1) : Calls Try.prog 16 #[.int .i32 a, .int .i32 b] w fun e w' => e = .returned (.tuple #[.int .i32 0, .bool false]) ∧ w = w' := by
  go_enter Try.func16, Try.ntmps16
  go_wp2
  go_ret2
  exact ⟨rfl, rfl⟩
theorem rmod_yes (a b : Int) (w : World) (hb : 1 ≤ b) (h1 : b ≤ 2147483647) (h2 : -2147483648 ≤ a) (h3 : a ≤ 2147483647) : Calls Try.prog 16 #[.int .i32 a, .int .i32 b] w fun e w' => e = .returned (.tuple #[.int .i32 (a % b), .bool true]) ∧ w = w' := by
  have hq := tmod_floor a b hb h1
  go_enter Try.func16, Try.ntmps16
  go_wp2
  all_goals go_ret2
  · exact ⟨ret2_int (by rw [wrap32_wrap64]; exact hq.1 (by assumption)), rfl⟩
  · exact ⟨ret2_int (by rw [← hq.2 (by assumption)]; exact IntWalk.wrap32_in _ (by have := Int.tmod_lt_of_pos a (show 0 < b by omega); omega)), rfl⟩

theorem by_any (n : Int) (w : World) : Calls Try.prog 77 #[.int .i32 n] w fun e w' => e = .returned (.int .u64 (n % 32)) ∧ w = w' := by
  go_enter Try.func77, Try.ntmps77
  go_wp2
  go_ret
  exact ⟨rfl, rfl⟩
theorem lsl_any (a n : Int) (w : World) : Calls Try.prog 74 #[.int .i32 a, .int .i32 n] w fun e w' => e = .returned (.int .i32 (wrap32 (a * 2 ^ (n % 32).toNat))) ∧ w = w' := by
  go_enter Try.func74, Try.ntmps74
  go_wp2_with (go_at_call 77; refine (by_any _ _).mono ?_; rintro e w' ⟨rfl, rfl⟩)
  go_ret
  exact ⟨rfl, rfl⟩
theorem asr_any (a n : Int) (w : World) : Calls Try.prog 75 #[.int .i32 a, .int .i32 n] w fun e w' => e = .returned (.int .i32 (a / 2 ^ (n % 32).toNat)) ∧ w = w' := by
  go_enter Try.func75, Try.ntmps75
  go_wp2_with (go_at_call 77; refine (by_any _ _).mono ?_; rintro e w' ⟨rfl, rfl⟩)
  go_ret
  exact ⟨rfl, rfl⟩
theorem rlsl_any (a n : Int) (w : World) : Calls Try.prog 17 #[.int .i32 a, .int .i32 n] w fun e w' => e = .returned (.int .i32 (wrap32 (a * 2 ^ (n % 32).toNat))) ∧ w = w' := by
  go_enter Try.func17, Try.ntmps17
  go_wp2
  go_ret
  exact ⟨by rw [← rlsl_eq]; rfl, rfl⟩
theorem rasr_any (a n : Int) (w : World) : Calls Try.prog 18 #[.int .i32 a, .int .i32 n] w fun e w' => e = .returned (.int .i32 (a / 2 ^ (n % 32).toNat)) ∧ w = w' := by
  go_enter Try.func18, Try.ntmps18
  go_wp2
  go_ret
  exact ⟨rfl, rfl⟩

theorem rol_any (a k : Int) (w : World) : Calls Try.prog 78 #[.int .u32 a, .int .i64 k] w fun e w' => e = .returned (.int .u32 (bits .or .u32 (a * 2 ^ (k % 32).toNat % 4294967296) (a / 2 ^ (32 - k % 32).toNat))) ∧ w = w' := by
  go_enter Try.func78, Try.ntmps78
  go_wp2
  go_ret
  exact ⟨rfl, rfl⟩
theorem ror_any (a n : Int) (w : World) : Calls Try.prog 76 #[.int .i32 a, .int .i32 n] w fun e w' => e = .returned (.int .i32 (ror a n)) ∧ w = w' := by
  have hr := ror_left a n
  go_enter Try.func76, Try.ntmps76
  go_wp2_with (first | (go_at_call 77; refine (by_any _ _).mono ?_; rintro e w' ⟨rfl, rfl⟩) | (go_at_call 78; refine (rol_any _ _ _).mono ?_; rintro e w' ⟨rfl, rfl⟩))
  go_ret
  exact ⟨ret_int hr, rfl⟩
theorem rror_any (a n : Int) (w : World) : Calls Try.prog 19 #[.int .i32 a, .int .i32 n] w fun e w' => e = .returned (.int .i32 (ror a n)) ∧ w = w' := by
  have hr := ror_right a n
  go_enter Try.func19, Try.ntmps19
  go_wp2
  go_ret
  exact ⟨ret_int hr, rfl⟩
end Go.Proofs.Ytgkdphnhfjjepaa

/- The stack machine in plain Lean. -/
namespace Go.Proofs.Ytgkdphnhfjjepaa
open Go.RowKit Go.Waf
set_option maxRecDepth 100000
set_option linter.unusedVariables false

/-- The operands and what is kept: the topmost first. -/
structure SSt where
  code : List (Int × Int)
  mem : List Int
  inp : List Int
  st : List Int
  fp : Int
  top : Int
  kept : List (Int × Int)
  pc : Int
  out : List Int
  fin : Int
  trap : Int

def tell (b : Bool) : Int := if b then 1 else 0
def okAt (s : SSt) (p k : Int) : Prop := 0 ≤ p ∧ 0 ≤ k ∧ k ≤ (s.mem.length : Int) - p
instance (s : SSt) (p k : Int) : Decidable (okAt s p k) := by unfold okAt; infer_instance
/-- What two numbers come to. -/
def sumV (op a b : Int) : Option Int :=
  if op = 9 then some (wrap32 (a + b)) else if op = 10 then some (wrap32 (a - b)) else if op = 11 then some (wrap32 (a * b))
  else if op = 12 then (if 1 ≤ b then some (a / b) else none) else if op = 13 then (if 1 ≤ b then some (a % b) else none)
  else if op = 15 then some (bits .and .i32 a b) else if op = 16 then some (bits .or .i32 a b) else if op = 17 then some (bits .xor .i32 a b)
  else if op = 19 then some (wrap32 (a * 2 ^ (b % 32).toNat)) else if op = 20 then some (a / 2 ^ (b % 32).toNat) else some (ror a b)
/-- The same, comparisons too. -/
def two (op a b : Int) : Option Int :=
  if op = 22 then some (tell (a == b)) else if op = 23 then some (tell (decide (a < b))) else if op = 24 then some (tell (decide (a ≤ b))) else sumV op a b
def SSt.reckon (s : SSt) (op : Int) : Option SSt := match s.st with
  | [] => none
  | b :: t =>
    if op = 14 then some { s with st := wrap32 (0 - b) :: t }
    else if op = 18 then some { s with st := (-1 - b) :: t }
    else match t with
      | [] => none
      | a :: t => (two op a b).map fun x => { s with st := x :: t }
def SSt.lead (s : SSt) (op k : Int) : Option SSt :=
  if op = 0 then some { s with fin := 1, pc := s.pc - 1 }
  else if op = 30 then (if 1 ≤ k ∧ k ≤ 15 then some { s with fin := 2, trap := k, pc := s.pc - 1 } else none)
  else if op = 25 then some { s with pc := k }
  else if op = 26 then (match s.st with | [] => none | x :: t => some { s with st := t, pc := if x = 0 then k else s.pc })
  else if op = 27 then (if s.kept.length < 1000 then some { s with kept := (s.pc, s.fp) :: s.kept, pc := k } else none)
  else if op = 28 then (if 0 ≤ k ∧ k ≤ (s.mem.length : Int) - s.top then some { s with fp := s.top, top := s.top + k, mem := s.mem.take s.top.toNat ++ List.replicate k.toNat 0 ++ s.mem.drop (s.top + k).toNat } else none)
  else match s.kept with
    | [] => none
    | x :: t => some { s with kept := t, top := s.fp, pc := x.1, fp := x.2 }
def SSt.lay (s : SSt) (x : Int) : Option SSt := if s.st.length < 1000 then some { s with st := x :: s.st } else none
def SSt.carry (s : SSt) (op k : Int) : Option SSt :=
  if op = 1 then s.lay k
  else if op = 2 then (match s.st with | [] => none | x :: _ => s.lay x)
  else if op = 3 then (match s.st with | [] => none | _ :: t => some { s with st := t })
  else if op = 4 then (match s.st with | b :: a :: t => some { s with st := a :: b :: t } | _ => none)
  else if op = 5 then s.lay (wrap32 (s.fp + k))
  else if op = 6 then (match s.st with | [] => none | p :: t => if okAt s p 1 then some { s with st := s.mem.getD p.toNat 0 :: t } else none)
  else if op = 7 then (match s.st with | x :: p :: t => (if okAt s p 1 then some { s with st := t, mem := s.mem.set p.toNat x } else none) | _ => none)
  else if op = 8 then (match s.st with | q :: p :: t => (if okAt s q k ∧ okAt s p k then some { s with st := t, mem := s.mem.take p.toNat ++ (s.mem.drop q.toNat).take k.toNat ++ s.mem.drop (p.toNat + k.toNat) } else none) | _ => none)
  else if op = 31 then ({ s with inp := s.inp.tail }).lay (s.inp.headD 0)
  else if op = 32 then s.lay (tell s.inp.isEmpty)
  else match s.st with | [] => none | x :: t => some { s with st := t, out := s.out ++ [x % 256] }
def SSt.exec (s : SSt) (op k : Int) : Option SSt :=
  if 9 ≤ op ∧ op ≤ 24 then s.reckon op else if (25 ≤ op ∧ op ≤ 30) ∨ op = 0 then s.lead op k else s.carry op k
def hasK (op : Int) : Bool := op == 1 || op == 5 || op == 8 || op == 25 || op == 26 || op == 27 || op == 28 || op == 30
def goodC (c : Int × Int) : Bool := decide (0 ≤ c.1) && decide (c.1 < 34) && (hasK c.1 || c.2 == 0)
def SSt.fault (s : SSt) : SSt := { s with fin := 2, trap := 15 }
def SSt.next (s : SSt) : SSt := { s with pc := s.pc + 1 }
def SSt.at' (s : SSt) : Int × Int := s.code.getD s.pc.toNat (0, 0)
def SSt.try1 (s : SSt) : Option SSt :=
  if 0 ≤ s.pc ∧ s.pc < s.code.length then (if goodC s.at' then s.next.exec s.at'.1 s.at'.2 else none) else none
def SSt.step1 (s : SSt) : SSt := s.try1.getD s.fault
def SSt.step (s : SSt) : SSt := if s.fin = 0 then s.step1 else s
def SSt.stepN (s : SSt) : Nat → SSt
  | 0 => s
  | n + 1 => s.step.stepN n

def I32 (x : Int) : Prop := -2147483648 ≤ x ∧ x ≤ 2147483647
def Byt (x : Int) : Prop := 0 ≤ x ∧ x ≤ 255
structure SFit (s : SSt) : Prop where
  code : ∀ c ∈ s.code, -9223372036854775808 ≤ c.1 ∧ c.1 ≤ 9223372036854775807 ∧ I32 c.2
  cl : s.code.length ≤ 1000000
  mem : ∀ x ∈ s.mem, I32 x
  ml : s.mem.length ≤ 1048576
  inp : ∀ x ∈ s.inp, Byt x
  il : s.inp.length ≤ 1000000
  st : ∀ x ∈ s.st, I32 x
  sl : s.st.length ≤ 1000
  f0 : 0 ≤ s.fp
  f1 : s.fp ≤ s.mem.length
  t0 : 0 ≤ s.top
  t1 : s.top ≤ s.mem.length
  kl : s.kept.length ≤ 1000
  kf : ∀ x ∈ s.kept, 0 ≤ x.2 ∧ x.2 ≤ s.mem.length ∧ -2147483648 ≤ x.1 ∧ x.1 ≤ 2147483648
  p0 : -2147483648 ≤ s.pc
  p1 : s.pc ≤ 2147483648
  out : ∀ x ∈ s.out, Byt x

theorem and_i32_in (a b : Int) : I32 (bits .and .i32 a b) := by rw [and_i32]; exact toInt_i32 _
theorem or_i32_in (a b : Int) : I32 (bits .or .i32 a b) := by rw [or_i32]; exact toInt_i32 _
theorem xor_i32_in (a b : Int) : I32 (bits .xor .i32 a b) := by
  show I32 (IntKind.i32.wrap _)
  rw [i32_wrap]; exact toInt_i32 _
theorem tell_in (b : Bool) : I32 (tell b) := by cases b <;> simp [tell, I32]
theorem sumV_in {op a b x : Int} (ha : I32 a) (hb : I32 b) (h : sumV op a b = some x) : I32 x := by
  unfold I32 at ha hb
  unfold sumV at h
  by_cases h9 : op = 9
  · rw [if_pos h9] at h; cases h; exact wrap32_le _
  rw [if_neg h9] at h
  by_cases h10 : op = 10
  · rw [if_pos h10] at h; cases h; exact wrap32_le _
  rw [if_neg h10] at h
  by_cases h11 : op = 11
  · rw [if_pos h11] at h; cases h; exact wrap32_le _
  rw [if_neg h11] at h
  by_cases h12 : op = 12
  · rw [if_pos h12] at h
    by_cases hd : 1 ≤ b
    · rw [if_pos hd] at h; cases h; exact div_bounds a b hd ha.1 ha.2
    · rw [if_neg hd] at h; cases h
  rw [if_neg h12] at h
  by_cases h13 : op = 13
  · rw [if_pos h13] at h
    by_cases hd : 1 ≤ b
    · rw [if_pos hd] at h; cases h
      have h1 : 0 ≤ a % b := Int.emod_nonneg _ (by omega)
      have h2 : a % b < b := Int.emod_lt_of_pos _ (by omega)
      unfold I32; omega
    · rw [if_neg hd] at h; cases h
  rw [if_neg h13] at h
  by_cases h15 : op = 15
  · rw [if_pos h15] at h; cases h; exact and_i32_in _ _
  rw [if_neg h15] at h
  by_cases h16 : op = 16
  · rw [if_pos h16] at h; cases h; exact or_i32_in _ _
  rw [if_neg h16] at h
  by_cases h17 : op = 17
  · rw [if_pos h17] at h; cases h; exact xor_i32_in _ _
  rw [if_neg h17] at h
  by_cases h19 : op = 19
  · rw [if_pos h19] at h; cases h; exact wrap32_le _
  rw [if_neg h19] at h
  by_cases h20 : op = 20
  · rw [if_pos h20] at h; cases h
    have hp : (1:Int) ≤ 2 ^ (b % 32).toNat := by exact_mod_cast Nat.one_le_two_pow
    exact div_bounds a _ hp ha.1 ha.2
  rw [if_neg h20] at h; cases h
  exact toInt_i32 _
theorem two_in {op a b x : Int} (ha : I32 a) (hb : I32 b) (h : two op a b = some x) : I32 x := by
  unfold two at h
  by_cases h1 : op = 22
  · rw [if_pos h1] at h; cases h; exact tell_in _
  rw [if_neg h1] at h
  by_cases h2 : op = 23
  · rw [if_pos h2] at h; cases h; exact tell_in _
  rw [if_neg h2] at h
  by_cases h3 : op = 24
  · rw [if_pos h3] at h; cases h; exact tell_in _
  rw [if_neg h3] at h
  exact sumV_in ha hb h

/-! What fits, changed -/
section
variable {s : SSt}
theorem SFit.stk (h : SFit s) {l : List Int} (h1 : ∀ x ∈ l, I32 x) (h2 : l.length ≤ 1000) : SFit { s with st := l } :=
  ⟨h.code, h.cl, h.mem, h.ml, h.inp, h.il, h1, h2, h.f0, h.f1, h.t0, h.t1, h.kl, h.kf, h.p0, h.p1, h.out⟩
theorem SFit.pcs (h : SFit s) {x : Int} (h1 : -2147483648 ≤ x) (h2 : x ≤ 2147483648) : SFit { s with pc := x } :=
  ⟨h.code, h.cl, h.mem, h.ml, h.inp, h.il, h.st, h.sl, h.f0, h.f1, h.t0, h.t1, h.kl, h.kf, h1, h2, h.out⟩
theorem SFit.ends (h : SFit s) (x y : Int) : SFit { s with fin := x, trap := y } :=
  ⟨h.code, h.cl, h.mem, h.ml, h.inp, h.il, h.st, h.sl, h.f0, h.f1, h.t0, h.t1, h.kl, h.kf, h.p0, h.p1, h.out⟩
theorem SFit.memo (h : SFit s) {l : List Int} (h1 : ∀ x ∈ l, I32 x) (h2 : l.length = s.mem.length) : SFit { s with mem := l } :=
  ⟨h.code, h.cl, h1, by rw [h2]; exact h.ml, h.inp, h.il, h.st, h.sl, h.f0, by rw [h2]; exact h.f1, h.t0, by rw [h2]; exact h.t1, h.kl, fun x hx => by rw [h2]; exact h.kf x hx, h.p0, h.p1, h.out⟩
theorem SFit.inps (h : SFit s) {l : List Int} (h1 : ∀ x ∈ l, Byt x) (h2 : l.length ≤ s.inp.length) : SFit { s with inp := l } :=
  ⟨h.code, h.cl, h.mem, h.ml, h1, Nat.le_trans h2 h.il, h.st, h.sl, h.f0, h.f1, h.t0, h.t1, h.kl, h.kf, h.p0, h.p1, h.out⟩
theorem SFit.outs (h : SFit s) {l : List Int} (h1 : ∀ x ∈ l, Byt x) : SFit { s with out := l } :=
  ⟨h.code, h.cl, h.mem, h.ml, h.inp, h.il, h.st, h.sl, h.f0, h.f1, h.t0, h.t1, h.kl, h.kf, h.p0, h.p1, h1⟩
theorem SFit.keeps (h : SFit s) {l : List (Int × Int)} (h1 : l.length ≤ 1000) (h2 : ∀ x ∈ l, 0 ≤ x.2 ∧ x.2 ≤ s.mem.length ∧ -2147483648 ≤ x.1 ∧ x.1 ≤ 2147483648) : SFit { s with kept := l } :=
  ⟨h.code, h.cl, h.mem, h.ml, h.inp, h.il, h.st, h.sl, h.f0, h.f1, h.t0, h.t1, h1, h2, h.p0, h.p1, h.out⟩
theorem SFit.frame (h : SFit s) {f t : Int} (h0 : 0 ≤ f) (h1 : f ≤ s.mem.length) (h2 : 0 ≤ t) (h3 : t ≤ s.mem.length) : SFit { s with fp := f, top := t } :=
  ⟨h.code, h.cl, h.mem, h.ml, h.inp, h.il, h.st, h.sl, h0, h1, h2, h3, h.kl, h.kf, h.p0, h.p1, h.out⟩
end
end Go.Proofs.Ytgkdphnhfjjepaa

/- How a stack machine lies in memory: the program's (p = true), the reference's. -/
namespace Go.Proofs.Ytgkdphnhfjjepaa
open Go.RowKit Go.Waf
set_option maxRecDepth 100000
set_option linter.unusedVariables false

def codeCells (l : List (Int × Int)) : List Value := l.flatMap fun c => [.int .i64 c.1, .int .i32 c.2]
def keptCells (l : List (Int × Int)) : List Value := l.flatMap fun c => [.int .i64 c.1, .int .i64 c.2]
theorem i32s_length (l : List Int) : (i32s l).length = l.length := List.length_map ..
theorem i32s_get (xs : List Int) (j : Nat) (h : j < xs.length) : (i32s xs)[j]? = some (.int .i32 (xs.getD j 0)) := by simp [i32s, h]
theorem i32s_set (xs : List Int) (j : Nat) (u : Int) : (i32s xs).set j (.int .i32 u) = i32s (xs.set j u) := by simp [i32s, List.map_set]
theorem one_i32s (xs : List Int) : ∀ u ∈ i32s xs, u.oneCell' = true := by
  intro u hu; obtain ⟨n, _, rfl⟩ := List.mem_map.1 hu; rfl
theorem codeCells_length (l : List (Int × Int)) : (codeCells l).length = l.length * 2 := by
  induction l with
  | nil => rfl
  | cons a t ih => simp [codeCells] at ih ⊢; omega
theorem keptCells_length (l : List (Int × Int)) : (keptCells l).length = l.length * 2 := by
  induction l with
  | nil => rfl
  | cons a t ih => simp [keptCells] at ih ⊢; omega
theorem keptCells_append (a b : List (Int × Int)) : keptCells (a ++ b) = keptCells a ++ keptCells b := by simp [keptCells]
theorem codeCells_get (l : List (Int × Int)) (j : Nat) (h : j < l.length) : (codeCells l)[2 * j]? = some (.int .i64 (l.getD j (0, 0)).1) ∧ (codeCells l)[2 * j + 1]? = some (.int .i32 (l.getD j (0, 0)).2) := by
  induction l generalizing j with
  | nil => simp at h
  | cons a t ih =>
    have e : codeCells (a :: t) = [.int .i64 a.1, .int .i32 a.2] ++ codeCells t := rfl
    cases j with
    | zero => rw [e]; exact ⟨rfl, rfl⟩
    | succ j =>
      have := ih j (by simpa using h)
      rw [e, List.getElem?_append_right (by simp; omega), List.getElem?_append_right (by simp; omega)]
      simpa [show 2 * (j + 1) - 2 = 2 * j by omega, show 2 * (j + 1) + 1 - 2 = 2 * j + 1 by omega] using this
theorem keptCells_get (l : List (Int × Int)) (j : Nat) (h : j < l.length) : (keptCells l)[2 * j]? = some (.int .i64 (l.getD j (0, 0)).1) ∧ (keptCells l)[2 * j + 1]? = some (.int .i64 (l.getD j (0, 0)).2) := by
  induction l generalizing j with
  | nil => simp at h
  | cons a t ih =>
    have e : keptCells (a :: t) = [.int .i64 a.1, .int .i64 a.2] ++ keptCells t := rfl
    cases j with
    | zero => rw [e]; exact ⟨rfl, rfl⟩
    | succ j =>
      have := ih j (by simpa using h)
      rw [e, List.getElem?_append_right (by simp; omega), List.getElem?_append_right (by simp; omega)]
      simpa [show 2 * (j + 1) - 2 = 2 * j by omega, show 2 * (j + 1) + 1 - 2 = 2 * j + 1 by omega] using this
def cellsP (s : SSt) (cv mv iv sv kv ov : Value) : List Value := [cv, mv, iv, sv, .int .i64 s.fp, .int .i64 s.top, kv, .int .i64 s.pc, ov, .int .i64 s.fin, .int .i64 s.trap]
def cellsR (s : SSt) (cv mv iv sv kv ov : Value) : List Value := [cv, mv, sv, .int .i64 s.fp, .int .i64 s.top, .int .i64 s.pc, kv, iv, ov, .int .i64 s.fin, .int .i64 s.trap]
def cellsS (p : Bool) (s : SSt) (cv mv iv sv kv ov : Value) : List Value := if p then cellsP s cv mv iv sv kv ov else cellsR s cv mv iv sv kv ov
def typeS (p : Bool) : TypeId := if p then 64 else 72
def Row (p : Bool) (w : World) (B e size : Nat) (v : Value) (n : Nat) (xs : List Value) : Prop := if p then w.ownsRow B e size v n xs else Rd w size v n xs
theorem Row.rd {p : Bool} {w : World} {B e size n : Nat} {v : Value} {xs : List Value} (h : Row p w B e size v n xs) : Rd w size v n xs := by
  cases p
  · exact h
  · exact rd_of_owns h
theorem Row.keep {p : Bool} {w w' : World} {F : Nat → Prop} {B e size n : Nat} {v : Value} {xs : List Value} (h : Row p w B e size v n xs) (hf : Fr F w w') (hv : ∀ k, v.ownBlock = some k → ¬ F k) : Row p w' B e size v n xs := by
  cases p
  · exact hf.rd h hv
  · exact hf.owns h hv
/-- Two slices that lie apart. -/
def Ap (a b : Value) : Prop := ∀ k, a.ownBlock = some k → b.ownBlock ≠ some k
theorem Ap.symm {a b : Value} (h : Ap a b) : Ap b a := fun k h1 h2 => h k h2 h1

structure SM (p : Bool) (w : World) (B q : Nat) (F : Nat → Prop) (cv mv iv sv kv ov : Value) (s : SSt) : Prop where
  fit : SFit s
  blk : w.heap[q]? = some (.cells (cellsS p s cv mv iv sv kv ov).toArray (typeS p) (0, 0))
  code : Rd w 2 cv s.code.length (codeCells s.code)
  mem : w.ownsRow B 21 1 mv s.mem.length (i32s s.mem)
  inp : Rd w 1 iv s.inp.length (byt s.inp)
  ops : Row p w B 21 1 sv s.st.length (i32s s.st.reverse)
  kept : Row p w B 100 2 kv s.kept.length (keptCells s.kept.reverse)
  out : w.ownsRow B 5 1 ov s.out.length (byt s.out)
  fq : F q
  fm : ∀ k, mv.ownBlock = some k → F k ∧ k ≠ q
  fs : ∀ k, sv.ownBlock = some k → F k ∧ k ≠ q
  fk : ∀ k, kv.ownBlock = some k → F k ∧ k ≠ q
  fo : ∀ k, ov.ownBlock = some k → F k ∧ k ≠ q
  ms : Ap mv sv
  mkp : Ap mv kv
  mo : Ap mv ov
  sk : Ap sv kv
  so : Ap sv ov
  ko : Ap kv ov
  fb : ∀ k, F k → B ≤ k ∧ k < w.heap.size
  fc : ∀ k, cv.ownBlock = some k → 0 < s.code.length → ¬ F k
  fi : ∀ k, iv.ownBlock = some k → 0 < s.inp.length → ¬ F k
  mn : mv.ownBlock ≠ none

theorem Rd_keep {w w' : World} {F : Nat → Prop} {size n : Nat} {v : Value} {cs : List Value} (h : Rd w size v n cs) (hf : Fr F w w') (hv : ∀ k, v.ownBlock = some k → 0 < n → ¬ F k) : Rd w' size v n cs := by
  obtain ⟨hl, a, cap, rfl, h1, h2, h3, h4⟩ := h
  refine ⟨hl, a, cap, rfl, h1, h2, h3, fun hn => ?_⟩
  obtain ⟨b, off, rfl, hc⟩ := h4 hn
  refine ⟨b, off, rfl, fun j u hu => ?_⟩
  rw [hf.cell (World.block_lt_of_cell? w _ (hc j u hu)) (hv b rfl hn)]
  exact hc j u hu
section
variable {p : Bool} {w : World} {B q : Nat} {F : Nat → Prop} {cv mv iv sv kv ov : Value} {s : SSt}
theorem SM.cell (h : SM p w B q F cv mv iv sv kv ov s) (j : Nat) : w.cell? ⟨q, j, none⟩ = (cellsS p s cv mv iv sv kv ov)[j]? := by
  rw [cell_of_row w q j _ _ _ h.blk]; simp
theorem SM.frozen (h : SM p w B q F cv mv iv sv kv ov s) (j : Nat) : w.frozen? ⟨q, j, none⟩ = false := frozen_of_row w q j _ _ h.blk
theorem SM.lt (h : SM p w B q F cv mv iv sv kv ov s) : q < w.heap.size := (h.fb q h.fq).2
/-- What others write leaves a machine as it is. -/
theorem SM.keep {w' : World} {G : Nat → Prop} (h : SM p w B q F cv mv iv sv kv ov s) (hf : Fr G w w') (h1 : ∀ k, F k → ¬ G k) (h2 : ∀ k, cv.ownBlock = some k → 0 < s.code.length → ¬ G k) (h3 : ∀ k, iv.ownBlock = some k → 0 < s.inp.length → ¬ G k) : SM p w' B q F cv mv iv sv kv ov s := by
  refine { h with blk := ?_, code := Rd_keep h.code hf h2, mem := hf.owns h.mem fun k hk => h1 k (h.fm k hk).1, inp := Rd_keep h.inp hf h3, ops := h.ops.keep hf fun k hk => h1 k (h.fs k hk).1, kept := h.kept.keep hf fun k hk => h1 k (h.fk k hk).1, out := hf.owns h.out fun k hk => h1 k (h.fo k hk).1, fb := fun k hk => ⟨(h.fb k hk).1, Nat.lt_of_lt_of_le (h.fb k hk).2 hf.size⟩ }
  rw [hf.block q (Array.getElem?_eq_some_iff.1 h.blk).1 (h1 q h.fq)]; exact h.blk
theorem SM.below {w' : World} (h : SM p w B q F cv mv iv sv kv ov s) (hb : Below w.heap.size w w') : SM p w' B q F cv mv iv sv kv ov s :=
  h.keep (G := fun _ => False) (Fr.of_new hb) (fun _ _ h => h) (fun _ _ _ h => h) (fun _ _ _ h => h)
theorem SM.alloc (h : SM p w B q F cv mv iv sv kv ov s) (o : Obj) : SM p (w.alloc o) B q F cv mv iv sv kv ov s := h.below ((Below.refl _ _).alloc (Nat.le_refl _) _)
theorem SM.drewN (h : SM p w B q F cv mv iv sv kv ov s) (n : Nat) : SM p (w.drewN n) B q F cv mv iv sv kv ov s := { h with }
theorem SM.drew (h : SM p w B q F cv mv iv sv kv ov s) : SM p w.drew B q F cv mv iv sv kv ov s := h.drewN 1
theorem heap_set_cells {w : World} {q j : Nat} {l : List Value} {T : TypeId} (h : w.heap[q]? = some (.cells l.toArray T (0, 0))) (u : Value) : (w.setCell ⟨q, j, none⟩ u).heap[q]? = some (.cells (l.set j u).toArray T (0, 0)) := by
  rw [heap_setCell_same w q j _ _ _ h]; simp
theorem fr_set (w : World) (q j : Nat) (u : Value) : Fr (fun k => k = q) w (w.setCell ⟨q, j, none⟩ u) := (Fr.refl (fun k => k = q) w).setCell (p := ⟨q, j, none⟩) (.inr rfl) u
/-- A cell of the machine's own block is written: no slice. -/
theorem SM.put (h : SM p w B q F cv mv iv sv kv ov s) (j : Nat) (u : Value) (s' : SSt) (hfit : SFit s') (e1 : s'.code = s.code) (e2 : s'.mem = s.mem) (e3 : s'.inp = s.inp) (e4 : s'.out = s.out) (e5 : s'.st = s.st) (e6 : s'.kept = s.kept)
    (hc : (cellsS p s cv mv iv sv kv ov).set j u = cellsS p s' cv mv iv sv kv ov) : SM p (w.setCell ⟨q, j, none⟩ u) B q F cv mv iv sv kv ov s' := by
  have hf := fr_set w q j u
  refine { h with fit := hfit, blk := ?_, code := ?_, mem := ?_, inp := ?_, ops := ?_, kept := ?_, out := ?_, fb := fun k hk => ⟨(h.fb k hk).1, Nat.lt_of_lt_of_le (h.fb k hk).2 hf.size⟩, fc := by rw [e1]; exact h.fc, fi := by rw [e3]; exact h.fi }
  · rw [heap_set_cells h.blk, hc]
  · rw [e1]; exact Rd_keep h.code hf fun k hk hn e => h.fc k hk hn (by rw [e]; exact h.fq)
  · rw [e2]; exact hf.owns h.mem fun k hk e => (h.fm k hk).2 e
  · rw [e3]; exact Rd_keep h.inp hf fun k hk hn e => h.fi k hk hn (by rw [e]; exact h.fq)
  · rw [e5]; exact h.ops.keep hf fun k hk e => (h.fs k hk).2 e
  · rw [e6]; exact h.kept.keep hf fun k hk e => (h.fk k hk).2 e
  · rw [e4]; exact hf.owns h.out fun k hk e => (h.fo k hk).2 e
theorem SM.fr (h : SM p w B q F cv mv iv sv kv ov s) (j : Nat) (u : Value) : Fr F w (w.setCell ⟨q, j, none⟩ u) := (Fr.refl F w).setCell (p := ⟨q, j, none⟩) (.inr h.fq) u
/-- A row of its own is there in place of another one: its block is the old one's, or new. -/
def Also (F : Nat → Prop) (v : Value) (k : Nat) : Prop := F k ∨ v.ownBlock = some k
theorem also_new {w w' : World} {v v' : Value} (hF : ∀ k, F k → B ≤ k ∧ k < w.heap.size) (hB : B ≤ w.heap.size) (hs : w.heap.size ≤ w'.heap.size) (hv : ∀ k, v.ownBlock = some k → F k) (hv' : ∀ k, v'.ownBlock = some k → v.ownBlock = some k ∨ w.heap.size ≤ k ∧ k < w'.heap.size) : ∀ k, Also F v' k → B ≤ k ∧ k < w'.heap.size := fun k hk => by
  have old : ∀ k, F k → B ≤ k ∧ k < w'.heap.size := fun k hk => ⟨(hF k hk).1, Nat.lt_of_lt_of_le (hF k hk).2 hs⟩
  rcases hk with hk | hk
  · exact old k hk
  · rcases hv' k hk with h | h
    · exact old k (hv k h)
    · exact ⟨Nat.le_trans hB h.1, h.2⟩
theorem ap_new {w : World} {u v v' : Value} (h : Ap u v) (hu : ∀ k, u.ownBlock = some k → k < w.heap.size) (hv' : ∀ k, v'.ownBlock = some k → v.ownBlock = some k ∨ w.heap.size ≤ k) : Ap u v' := fun k h1 h2 => by
  rcases hv' k h2 with h3 | h3
  · exact h k h1 h3
  · have := hu k h1; omega
theorem rd_lt {w : World} {size n : Nat} {v : Value} {cs : List Value} (h : Rd w size v n cs) (hs : 0 < size) (hn : 0 < n) {k : Nat} (hk : v.ownBlock = some k) : k < w.heap.size := by
  obtain ⟨hl, a, cap, rfl, h1, h2, h3, h4⟩ := h
  obtain ⟨b, off, rfl, hc⟩ := h4 hn
  have h0 : 0 < cs.length := by rw [hl]; exact Nat.mul_pos hn hs
  have := World.block_lt_of_cell? w _ (hc 0 _ (List.getElem?_eq_getElem h0))
  cases hk; exact this
end
end Go.Proofs.Ytgkdphnhfjjepaa

/- What a stack machine becomes: another row of operands, of what is kept, of what was written; other words; less input. -/
namespace Go.Proofs.Ytgkdphnhfjjepaa
open Go.RowKit Go.Waf
set_option maxRecDepth 100000
set_option linter.unusedVariables false

def jS (p : Bool) : Nat := if p then 3 else 2
def jK (p : Bool) : Nat := 6
def jI (p : Bool) : Nat := if p then 2 else 7
theorem cells_setS (p : Bool) (s : SSt) (cv mv iv sv kv ov v : Value) : (cellsS p s cv mv iv sv kv ov).set (jS p) v = cellsS p s cv mv iv v kv ov := by cases p <;> rfl
theorem cells_setK (p : Bool) (s : SSt) (cv mv iv sv kv ov v : Value) : (cellsS p s cv mv iv sv kv ov).set 6 v = cellsS p s cv mv iv sv v ov := by cases p <;> rfl
theorem cells_setO (p : Bool) (s : SSt) (cv mv iv sv kv ov v : Value) : (cellsS p s cv mv iv sv kv ov).set 8 v = cellsS p s cv mv iv sv kv v := by cases p <;> rfl
theorem cells_setI (p : Bool) (s : SSt) (cv mv iv sv kv ov v : Value) : (cellsS p s cv mv iv sv kv ov).set (jI p) v = cellsS p s cv mv v sv kv ov := by cases p <;> rfl
theorem cells_st (p : Bool) (s : SSt) (l : List Int) (cv mv iv sv kv ov : Value) : cellsS p { s with st := l } cv mv iv sv kv ov = cellsS p s cv mv iv sv kv ov := by cases p <;> rfl
theorem cells_kept (p : Bool) (s : SSt) (l : List (Int × Int)) (cv mv iv sv kv ov : Value) : cellsS p { s with kept := l } cv mv iv sv kv ov = cellsS p s cv mv iv sv kv ov := by cases p <;> rfl
theorem cells_out (p : Bool) (s : SSt) (l : List Int) (cv mv iv sv kv ov : Value) : cellsS p { s with out := l } cv mv iv sv kv ov = cellsS p s cv mv iv sv kv ov := by cases p <;> rfl
theorem cells_mem (p : Bool) (s : SSt) (l : List Int) (cv mv iv sv kv ov : Value) : cellsS p { s with mem := l } cv mv iv sv kv ov = cellsS p s cv mv iv sv kv ov := by cases p <;> rfl
theorem cells_inp (p : Bool) (s : SSt) (l : List Int) (cv mv iv sv kv ov : Value) : cellsS p { s with inp := l } cv mv iv sv kv ov = cellsS p s cv mv iv sv kv ov := by cases p <;> rfl
def newer (w w' : World) (v v' : Value) : Prop := ∀ k, v'.ownBlock = some k → v.ownBlock = some k ∨ w.heap.size ≤ k ∧ k < w'.heap.size
section
variable {p : Bool} {w : World} {B q : Nat} {F : Nat → Prop} {cv mv iv sv kv ov : Value} {s : SSt}
theorem SM.not_of (h : SM p w B q F cv mv iv sv kv ov s) {v v' : Value} {w1 : World} (hv : ∀ k, v.ownBlock = some k → F k) (hn : newer w w1 v v') {u : Value} {n size : Nat} {cs : List Value} (hr : Rd w size u n cs) (hs : 0 < size) (hu : ∀ k, u.ownBlock = some k → 0 < n → ¬ F k) : ∀ k, u.ownBlock = some k → 0 < n → ¬ Also F v' k := fun k hk h0 hf => by
  rcases hf with hf | hf
  · exact hu k hk h0 hf
  · rcases hn k hf with h1 | h1
    · exact hu k hk h0 (hv k h1)
    · have := rd_lt hr hs h0 hk; omega
theorem Also.of {v : Value} {k : Nat} (h : F k) : Also F v k := .inl h
theorem SM.olds (h : SM p w B q F cv mv iv sv kv ov s) {v : Value} (hv : ∀ k, v.ownBlock = some k → F k) : ∀ k, v.ownBlock = some k → k < w.heap.size := fun k hk => (h.fb k (hv k hk)).2
theorem SM.Bq (h : SM p w B q F cv mv iv sv kv ov s) : B ≤ w.heap.size := Nat.le_of_lt (Nat.lt_of_le_of_lt (h.fb q h.fq).1 h.lt)
/-- Another row of operands. -/
theorem SM.newS (h : SM p w B q F cv mv iv sv kv ov s) {w1 : World} (hf : Fr (fun k => sv.ownBlock = some k) w w1) {v : Value} {l : List Int} (hr : Row p w1 B 21 1 v l.length (i32s l.reverse)) (hn : newer w w1 sv v) (hfit : SFit { s with st := l }) :
    SM p (w1.setCell ⟨q, jS p, none⟩ v) B q (Also F v) cv mv iv v kv ov { s with st := l } := by
  have hs := fun k hk => (h.fs k hk).1
  have hq : ¬ sv.ownBlock = some q := fun e => (h.fs q e).2 rfl
  have hvq : ∀ k, v.ownBlock = some k → k ≠ q := fun k hk e => by
    rcases hn k hk with h1 | h1
    · exact (h.fs k h1).2 e
    · have := h.lt; omega
  have hg := fr_set w1 q (jS p) v
  have hn' : ∀ k, v.ownBlock = some k → sv.ownBlock = some k ∨ w.heap.size ≤ k := fun k hk => (hn k hk).imp id And.left
  refine { mn := h.mn, fit := hfit, blk := ?_, code := ?_, mem := ?_, inp := ?_, ops := ?_, kept := ?_, out := ?_, fq := .inl h.fq, fm := fun k hk => ⟨.inl (h.fm k hk).1, (h.fm k hk).2⟩, fs := fun k hk => ⟨.inr hk, hvq k hk⟩, fk := fun k hk => ⟨.inl (h.fk k hk).1, (h.fk k hk).2⟩, fo := fun k hk => ⟨.inl (h.fo k hk).1, (h.fo k hk).2⟩, ms := ap_new h.ms (h.olds fun k hk => (h.fm k hk).1) hn', mkp := h.mkp, mo := h.mo, sk := (ap_new h.sk.symm (h.olds fun k hk => (h.fk k hk).1) hn').symm, so := (ap_new h.so.symm (h.olds fun k hk => (h.fo k hk).1) hn').symm, ko := h.ko, fb := fun k hk => ?_, fc := h.not_of hs hn h.code (by decide) h.fc, fi := h.not_of hs hn h.inp (by decide) h.fi }
  · rw [heap_set_cells (by rw [hf.block q h.lt hq]; exact h.blk), cells_setS, cells_st p s l]
  · exact Rd_keep (Rd_keep h.code hf fun k hk h0 e => h.fc k hk h0 (hs k e)) hg fun k hk h0 e => h.fc k hk h0 (by rw [e]; exact h.fq)
  · exact hg.owns (hf.owns h.mem fun k hk e => h.ms k hk e) fun k hk e => (h.fm k hk).2 e
  · exact Rd_keep (Rd_keep h.inp hf fun k hk h0 e => h.fi k hk h0 (hs k e)) hg fun k hk h0 e => h.fi k hk h0 (by rw [e]; exact h.fq)
  · exact hr.keep hg hvq
  · exact (h.kept.keep hf fun k hk e => h.sk k e hk).keep hg fun k hk e => (h.fk k hk).2 e
  · exact hg.owns (hf.owns h.out fun k hk e => h.so k e hk) fun k hk e => (h.fo k hk).2 e
  · have := also_new h.fb h.Bq hf.size hs hn k hk
    exact ⟨this.1, Nat.lt_of_lt_of_le this.2 hg.size⟩
/-- Another row of what is kept. -/
theorem SM.newK (h : SM p w B q F cv mv iv sv kv ov s) {w1 : World} (hf : Fr (fun k => kv.ownBlock = some k) w w1) {v : Value} {l : List (Int × Int)} (hr : Row p w1 B 100 2 v l.length (keptCells l.reverse)) (hn : newer w w1 kv v) (hfit : SFit { s with kept := l }) :
    SM p (w1.setCell ⟨q, 6, none⟩ v) B q (Also F v) cv mv iv sv v ov { s with kept := l } := by
  have hs := fun k hk => (h.fk k hk).1
  have hq : ¬ kv.ownBlock = some q := fun e => (h.fk q e).2 rfl
  have hvq : ∀ k, v.ownBlock = some k → k ≠ q := fun k hk e => by
    rcases hn k hk with h1 | h1
    · exact (h.fk k h1).2 e
    · have := h.lt; omega
  have hg := fr_set w1 q 6 v
  have hn' : ∀ k, v.ownBlock = some k → kv.ownBlock = some k ∨ w.heap.size ≤ k := fun k hk => (hn k hk).imp id And.left
  refine { mn := h.mn, fit := hfit, blk := ?_, code := ?_, mem := ?_, inp := ?_, ops := ?_, kept := ?_, out := ?_, fq := .inl h.fq, fm := fun k hk => ⟨.inl (h.fm k hk).1, (h.fm k hk).2⟩, fs := fun k hk => ⟨.inl (h.fs k hk).1, (h.fs k hk).2⟩, fk := fun k hk => ⟨.inr hk, hvq k hk⟩, fo := fun k hk => ⟨.inl (h.fo k hk).1, (h.fo k hk).2⟩, ms := h.ms, mkp := ap_new h.mkp (h.olds fun k hk => (h.fm k hk).1) hn', mo := h.mo, sk := ap_new h.sk (h.olds fun k hk => (h.fs k hk).1) hn', so := h.so, ko := (ap_new h.ko.symm (h.olds fun k hk => (h.fo k hk).1) hn').symm, fb := fun k hk => ?_, fc := h.not_of hs hn h.code (by decide) h.fc, fi := h.not_of hs hn h.inp (by decide) h.fi }
  · rw [heap_set_cells (by rw [hf.block q h.lt hq]; exact h.blk), cells_setK, cells_kept p s l]
  · exact Rd_keep (Rd_keep h.code hf fun k hk h0 e => h.fc k hk h0 (hs k e)) hg fun k hk h0 e => h.fc k hk h0 (by rw [e]; exact h.fq)
  · exact hg.owns (hf.owns h.mem fun k hk e => h.mkp k hk e) fun k hk e => (h.fm k hk).2 e
  · exact Rd_keep (Rd_keep h.inp hf fun k hk h0 e => h.fi k hk h0 (hs k e)) hg fun k hk h0 e => h.fi k hk h0 (by rw [e]; exact h.fq)
  · exact (h.ops.keep hf fun k hk e => h.sk k hk e).keep hg fun k hk e => (h.fs k hk).2 e
  · exact hr.keep hg hvq
  · exact hg.owns (hf.owns h.out fun k hk e => h.ko k e hk) fun k hk e => (h.fo k hk).2 e
  · have := also_new h.fb h.Bq hf.size hs hn k hk
    exact ⟨this.1, Nat.lt_of_lt_of_le this.2 hg.size⟩
/-- More is written. -/
theorem SM.newO (h : SM p w B q F cv mv iv sv kv ov s) {w1 : World} (hf : Fr (fun k => ov.ownBlock = some k) w w1) {v : Value} {l : List Int} (hr : w1.ownsRow B 5 1 v l.length (byt l)) (hn : newer w w1 ov v) (hfit : SFit { s with out := l }) :
    SM p (w1.setCell ⟨q, 8, none⟩ v) B q (Also F v) cv mv iv sv kv v { s with out := l } := by
  have hs := fun k hk => (h.fo k hk).1
  have hq : ¬ ov.ownBlock = some q := fun e => (h.fo q e).2 rfl
  have hvq : ∀ k, v.ownBlock = some k → k ≠ q := fun k hk e => by
    rcases hn k hk with h1 | h1
    · exact (h.fo k h1).2 e
    · have := h.lt; omega
  have hg := fr_set w1 q 8 v
  have hn' : ∀ k, v.ownBlock = some k → ov.ownBlock = some k ∨ w.heap.size ≤ k := fun k hk => (hn k hk).imp id And.left
  refine { mn := h.mn, fit := hfit, blk := ?_, code := ?_, mem := ?_, inp := ?_, ops := ?_, kept := ?_, out := ?_, fq := .inl h.fq, fm := fun k hk => ⟨.inl (h.fm k hk).1, (h.fm k hk).2⟩, fs := fun k hk => ⟨.inl (h.fs k hk).1, (h.fs k hk).2⟩, fk := fun k hk => ⟨.inl (h.fk k hk).1, (h.fk k hk).2⟩, fo := fun k hk => ⟨.inr hk, hvq k hk⟩, ms := h.ms, mkp := h.mkp, mo := ap_new h.mo (h.olds fun k hk => (h.fm k hk).1) hn', sk := h.sk, so := ap_new h.so (h.olds fun k hk => (h.fs k hk).1) hn', ko := ap_new h.ko (h.olds fun k hk => (h.fk k hk).1) hn', fb := fun k hk => ?_, fc := h.not_of hs hn h.code (by decide) h.fc, fi := h.not_of hs hn h.inp (by decide) h.fi }
  · rw [heap_set_cells (by rw [hf.block q h.lt hq]; exact h.blk), cells_setO, cells_out p s l]
  · exact Rd_keep (Rd_keep h.code hf fun k hk h0 e => h.fc k hk h0 (hs k e)) hg fun k hk h0 e => h.fc k hk h0 (by rw [e]; exact h.fq)
  · exact hg.owns (hf.owns h.mem fun k hk e => h.mo k hk e) fun k hk e => (h.fm k hk).2 e
  · exact Rd_keep (Rd_keep h.inp hf fun k hk h0 e => h.fi k hk h0 (hs k e)) hg fun k hk h0 e => h.fi k hk h0 (by rw [e]; exact h.fq)
  · exact (h.ops.keep hf fun k hk e => h.so k hk e).keep hg fun k hk e => (h.fs k hk).2 e
  · exact (h.kept.keep hf fun k hk e => h.ko k hk e).keep hg fun k hk e => (h.fk k hk).2 e
  · exact hg.owns hr hvq
  · have := also_new h.fb h.Bq hf.size hs hn k hk
    exact ⟨this.1, Nat.lt_of_lt_of_le this.2 hg.size⟩
/-- Other words in the same row. -/
theorem SM.newM (h : SM p w B q F cv mv iv sv kv ov s) {w1 : World} (hf : Fr (fun k => mv.ownBlock = some k) w w1) {l : List Int} (hr : w1.ownsRow B 21 1 mv l.length (i32s l)) (hfit : SFit { s with mem := l }) :
    SM p w1 B q F cv mv iv sv kv ov { s with mem := l } := by
  have hs := fun k hk => (h.fm k hk).1
  have hq : ¬ mv.ownBlock = some q := fun e => (h.fm q e).2 rfl
  refine { h with fit := hfit, blk := ?_, code := ?_, mem := hr, inp := ?_, ops := ?_, kept := ?_, out := ?_, fb := fun k hk => ⟨(h.fb k hk).1, Nat.lt_of_lt_of_le (h.fb k hk).2 hf.size⟩ }
  · rw [hf.block q h.lt hq, cells_mem p s l]; exact h.blk
  · exact Rd_keep h.code hf fun k hk h0 e => h.fc k hk h0 (hs k e)
  · exact Rd_keep h.inp hf fun k hk h0 e => h.fi k hk h0 (hs k e)
  · exact h.ops.keep hf fun k hk e => h.ms k e hk
  · exact h.kept.keep hf fun k hk e => h.mkp k e hk
  · exact hf.owns h.out fun k hk e => h.mo k e hk
/-- Less input. -/
theorem SM.newI (h : SM p w B q F cv mv iv sv kv ov s) {v : Value} {l : List Int} (hr : Rd w 1 v l.length (byt l)) (hv : v.ownBlock = iv.ownBlock) (hl : 0 < l.length → 0 < s.inp.length) (hfit : SFit { s with inp := l }) :
    SM p (w.setCell ⟨q, jI p, none⟩ v) B q F cv mv v sv kv ov { s with inp := l } := by
  have hg := fr_set w q (jI p) v
  have hi : ∀ k, v.ownBlock = some k → 0 < l.length → ¬ F k := fun k hk h0 => h.fi k (by rw [← hv]; exact hk) (hl h0)
  refine { h with fit := hfit, blk := ?_, code := ?_, mem := ?_, inp := ?_, ops := ?_, kept := ?_, out := ?_, fi := hi, fb := fun k hk => ⟨(h.fb k hk).1, Nat.lt_of_lt_of_le (h.fb k hk).2 hg.size⟩ }
  · rw [heap_set_cells h.blk, cells_setI, cells_inp p s l]
  · exact Rd_keep h.code hg fun k hk h0 e => h.fc k hk h0 (by rw [e]; exact h.fq)
  · exact hg.owns h.mem fun k hk e => (h.fm k hk).2 e
  · exact Rd_keep hr hg fun k hk h0 e => hi k hk h0 (by rw [e]; exact h.fq)
  · exact h.ops.keep hg fun k hk e => (h.fs k hk).2 e
  · exact h.kept.keep hg fun k hk e => (h.fk k hk).2 e
  · exact hg.owns h.out fun k hk e => (h.fo k hk).2 e
/-- Cells of the program's machine, and of the reference's. -/
theorem SM.p0 (h : SM true w B q F cv mv iv sv kv ov s) : w.cell? ⟨q, 0, none⟩ = some cv := h.cell 0
theorem SM.p1 (h : SM true w B q F cv mv iv sv kv ov s) : w.cell? ⟨q, 1, none⟩ = some mv := h.cell 1
theorem SM.p2 (h : SM true w B q F cv mv iv sv kv ov s) : w.cell? ⟨q, 2, none⟩ = some iv := h.cell 2
theorem SM.p3 (h : SM true w B q F cv mv iv sv kv ov s) : w.cell? ⟨q, 3, none⟩ = some sv := h.cell 3
theorem SM.p4 (h : SM true w B q F cv mv iv sv kv ov s) : w.cell? ⟨q, 4, none⟩ = some (.int .i64 s.fp) := h.cell 4
theorem SM.p5 (h : SM true w B q F cv mv iv sv kv ov s) : w.cell? ⟨q, 5, none⟩ = some (.int .i64 s.top) := h.cell 5
theorem SM.p6 (h : SM true w B q F cv mv iv sv kv ov s) : w.cell? ⟨q, 6, none⟩ = some kv := h.cell 6
theorem SM.p7 (h : SM true w B q F cv mv iv sv kv ov s) : w.cell? ⟨q, 7, none⟩ = some (.int .i64 s.pc) := h.cell 7
theorem SM.p8 (h : SM true w B q F cv mv iv sv kv ov s) : w.cell? ⟨q, 8, none⟩ = some ov := h.cell 8
theorem SM.p9 (h : SM true w B q F cv mv iv sv kv ov s) : w.cell? ⟨q, 9, none⟩ = some (.int .i64 s.fin) := h.cell 9
theorem SM.p10 (h : SM true w B q F cv mv iv sv kv ov s) : w.cell? ⟨q, 10, none⟩ = some (.int .i64 s.trap) := h.cell 10
theorem SM.r0 (h : SM false w B q F cv mv iv sv kv ov s) : w.cell? ⟨q, 0, none⟩ = some cv := h.cell 0
theorem SM.r1 (h : SM false w B q F cv mv iv sv kv ov s) : w.cell? ⟨q, 1, none⟩ = some mv := h.cell 1
theorem SM.r2 (h : SM false w B q F cv mv iv sv kv ov s) : w.cell? ⟨q, 2, none⟩ = some sv := h.cell 2
theorem SM.r3 (h : SM false w B q F cv mv iv sv kv ov s) : w.cell? ⟨q, 3, none⟩ = some (.int .i64 s.fp) := h.cell 3
theorem SM.r4 (h : SM false w B q F cv mv iv sv kv ov s) : w.cell? ⟨q, 4, none⟩ = some (.int .i64 s.top) := h.cell 4
theorem SM.r5 (h : SM false w B q F cv mv iv sv kv ov s) : w.cell? ⟨q, 5, none⟩ = some (.int .i64 s.pc) := h.cell 5
theorem SM.r6 (h : SM false w B q F cv mv iv sv kv ov s) : w.cell? ⟨q, 6, none⟩ = some kv := h.cell 6
theorem SM.r7 (h : SM false w B q F cv mv iv sv kv ov s) : w.cell? ⟨q, 7, none⟩ = some iv := h.cell 7
theorem SM.r8 (h : SM false w B q F cv mv iv sv kv ov s) : w.cell? ⟨q, 8, none⟩ = some ov := h.cell 8
theorem SM.r9 (h : SM false w B q F cv mv iv sv kv ov s) : w.cell? ⟨q, 9, none⟩ = some (.int .i64 s.fin) := h.cell 9
theorem SM.r10 (h : SM false w B q F cv mv iv sv kv ov s) : w.cell? ⟨q, 10, none⟩ = some (.int .i64 s.trap) := h.cell 10
end
end Go.Proofs.Ytgkdphnhfjjepaa

/- The program's pop, push, truth, place on a machine. -/
namespace Go.Proofs.Ytgkdphnhfjjepaa
open Go.RowKit Go.Waf
set_option maxRecDepth 100000
set_option linter.unusedVariables false

theorem owns_shorter {w : World} {B e size n N c : Nat} {a : Option Addr} {xs ys : List Value} (h : w.ownsRow B e size (.slice a N c) N (xs ++ ys)) (hx : xs.length = n * size) (hn : n ≤ N) (h0 : 0 < N) : w.ownsRow B e size (.slice a n c) n xs := by
  refine ⟨hx, ?_⟩
  rcases h.2 with ⟨_, h1⟩ | ⟨g, cap, cur, hv, hb, hg, h1, h2, h3, h4⟩
  · omega
  · cases hv
    refine .inr ⟨g, c, cur, rfl, hb, hg, by omega, h2, h3, ?_⟩
    have h5 : cur.toList.take (n * size) = (cur.toList.take (N * size)).take (n * size) := by
      rw [List.take_take, Nat.min_eq_left (Nat.mul_le_mul_right _ hn)]
    rw [h5, h4, ← hx, List.take_left]
/-- What was done turned only what is the machine's own, or new. -/
structure Mv (w : World) (F F' : Nat → Prop) (w' : World) : Prop where
  fr : Fr F w w'
  new : ∀ k, F' k → F k ∨ w.heap.size ≤ k
theorem Mv.refl (w : World) (F : Nat → Prop) : Mv w F F w := ⟨Fr.refl _ _, fun _ h => .inl h⟩
theorem Mv.trans {w w1 w2 : World} {F F1 F2 : Nat → Prop} (h : Mv w F F1 w1) (k : Mv w1 F1 F2 w2) : Mv w F F2 w2 :=
  ⟨h.fr.trans k.fr fun i hi hf => (h.new i hf).elim id (fun hle => by omega), fun i hi => (k.new i hi).elim (h.new i) fun hle => .inr (Nat.le_trans h.fr.size hle)⟩
theorem Mv.drewN {w w1 : World} {F F1 : Nat → Prop} (h : Mv w F F1 w1) (n : Nat) : Mv w F F1 (w1.drewN n) := ⟨h.fr.drewN n, h.new⟩
theorem Mv.alloc {w w1 : World} {F F1 : Nat → Prop} (h : Mv w F F1 w1) (o : Obj) : Mv w F F1 (w1.alloc o) := ⟨h.fr.alloc o, h.new⟩
theorem Mv.below {w w1 w2 : World} {F F1 : Nat → Prop} (h : Mv w F F1 w1) (hb : Below w1.heap.size w1 w2) : Mv w F F1 w2 := h.trans ⟨Fr.of_new hb, fun _ h => .inl h⟩
theorem fr_also {w w1 : World} {B q j : Nat} {F : Nat → Prop} {v sv : Value} (hf : Fr (fun k => sv.ownBlock = some k) w w1) (hs : ∀ k, sv.ownBlock = some k → F k) (hq : F q) (hn : newer w w1 sv v) : Mv w F (Also F v) (w1.setCell ⟨q, j, none⟩ v) :=
  ⟨(hf.mono fun k _ hk => hs k hk).setCell (p := ⟨q, j, none⟩) (.inr hq) v, fun k hk => by
    rcases hk with hk | hk
    · exact .inl hk
    · exact (hn k hk).imp (hs k) And.left⟩
section
variable {w : World} {B q : Nat} {F : Nat → Prop} {cv mv iv sv kv ov : Value} {s : SSt}
/-- A state with other operands. -/
def OpP (w : World) (B q : Nat) (F : Nat → Prop) (cv mv iv kv ov : Value) (s' : SSt) (w' : World) : Prop := ∃ F' sv', SM true w' B q F' cv mv iv sv' kv ov s' ∧ Mv w F F' w'
theorem pop_m (h : SM true w B q F cv mv iv sv kv ov s) {x : Int} {t : List Int} (hst : s.st = x :: t) :
    Calls Try.prog 63 #[.pointer (some ⟨q, 0, none⟩)] w fun e w' => e = .returned (.int .i32 x) ∧ OpP w B q F cv mv iv kv ov { s with st := t } w' := by
  have hops : w.ownsRow B 21 1 sv s.st.length (i32s s.st.reverse) := h.ops
  have hl : s.st.length = t.length + 1 := by rw [hst]; rfl
  have hsl := h.fit.sl
  obtain ⟨g, c, rfl, hg, hgl, hN, hc⟩ := owns_some hops (by omega)
  have hrow : i32s s.st.reverse = i32s t.reverse ++ i32s [x] := by rw [hst]; simp [i32s]
  have hlen : (i32s t.reverse).length = t.length * 1 := by simp [i32s]
  have cx : w.cell? ⟨g, t.length, none⟩ = some (.int .i32 x) := by
    rw [hops.cellAt t.length (by omega), hrow, List.getElem?_append_right (by simp [i32s])]
    simp [i32s]
  refine (pop_ok q g t.length s.st.length c x w hl h.p3 (h.frozen 3) cx hN (by omega)).mono ?_
  rintro e w' ⟨rfl, m, rfl⟩
  have hshort : w.ownsRow B 21 1 (.slice (some ⟨g, 0, none⟩) t.length c) t.length (i32s t.reverse) := owns_shorter (by rw [← hrow]; exact hops) hlen (by omega) (by omega)
  have hfit : SFit { s with st := t } := h.fit.stk (fun y hy => h.fit.st y (by rw [hst]; exact List.mem_cons_of_mem _ hy)) (by omega)
  have hnew : newer w (w.drewN m) (.slice (some ⟨g, 0, none⟩) s.st.length c) (.slice (some ⟨g, 0, none⟩) t.length c) := fun k hk => .inl hk
  have hf : Fr (fun k => (Value.slice (some ⟨g, 0, none⟩) s.st.length c).ownBlock = some k) w (w.drewN m) := (Fr.refl _ _).drewN m
  exact ⟨rfl, _, _, h.newS hf (l := t) (show (w.drewN m).ownsRow B 21 1 _ t.length (i32s t.reverse) from hshort) hnew hfit, fr_also (B := B) hf (fun k hk => (h.fs k hk).1) h.fq hnew⟩
theorem pop_mno (h : SM true w B q F cv mv iv sv kv ov s) (hst : s.st = []) :
    Calls Try.prog 63 #[.pointer (some ⟨q, 0, none⟩)] w fun e w' => e = .panicked faultP ∧ w' = w := by
  obtain ⟨a, c, rfl, _⟩ := rd_shape h.ops.rd
  have := h.p3
  rw [hst] at this
  exact pop_no a c q w this
theorem push_m (h : SM true w B q F cv mv iv sv kv ov s) (x : Int) (hx : I32 x) (hl : s.st.length < 1000) :
    Calls Try.prog 64 #[.pointer (some ⟨q, 0, none⟩), .int .i32 x] w fun e w' => e = .returned (.tuple #[]) ∧ OpP w B q F cv mv iv kv ov { s with st := x :: s.st } w' := by
  have hops : w.ownsRow B 21 1 sv s.st.length (i32s s.st.reverse) := h.ops
  obtain ⟨a, c, rfl, _⟩ := owns_shape hops
  refine (push_ok q s.st.length c B a s.st.reverse x w h.p3 (h.frozen 3) hops h.Bq (fun k hk => (h.fs k hk).2) hl).mono ?_
  rintro e w' ⟨rfl, w1, v1, rfl, ho, hf, hn⟩
  have hnew : newer w w1 (.slice a s.st.length c) v1 := fun k hk => (hn k hk).imp id fun h1 => ⟨h1, (ho.lt k hk).2⟩
  have hfit : SFit { s with st := x :: s.st } := h.fit.stk (fun y hy => by
    rcases List.mem_cons.1 hy with rfl | hy
    · exact hx
    · exact h.fit.st y hy) (by simp; omega)
  have e1 : i32s (x :: s.st).reverse = i32s (s.st.reverse ++ [x]) := by simp
  exact ⟨rfl, _, _, h.newS hf (l := x :: s.st) (show w1.ownsRow B 21 1 v1 (s.st.length + 1) (i32s (x :: s.st).reverse) from by rw [e1]; exact ho) hnew hfit, fr_also (B := B) hf (fun k hk => (h.fs k hk).1) h.fq hnew⟩
theorem push_mno (h : SM true w B q F cv mv iv sv kv ov s) (x : Int) (hl : 1000 ≤ s.st.length) :
    Calls Try.prog 64 #[.pointer (some ⟨q, 0, none⟩), .int .i32 x] w fun e w' => e = .panicked faultP ∧ w' = w := by
  obtain ⟨a, c, rfl, _⟩ := rd_shape h.ops.rd
  exact push_no q s.st.length c a x w h.p3 hl
theorem truth_m (h : SM true w B q F cv mv iv sv kv ov s) (b : Bool) (hl : s.st.length < 1000) :
    Calls Try.prog 66 #[.pointer (some ⟨q, 0, none⟩), .bool b] w fun e w' => e = .returned (.tuple #[]) ∧ OpP w B q F cv mv iv kv ov { s with st := tell b :: s.st } w' := by
  have HP := Lib.hid (push_m h (tell b) (tell_in b) hl)
  clear h hl
  cases b
  · have HP' := Lib.hid (show Calls Try.prog 64 #[.pointer (some ⟨q, 0, none⟩), .int .i32 0] w _ from HP.out)
    go_enter Try.func66, Try.ntmps66
    go_wp2_with (go_at_call 64; refine HP'.out.mono ?_; rintro e w1 ⟨rfl, h1⟩; have H1 := Lib.hid h1; clear h1)
    go_end0
    exact ⟨rfl, H1.out⟩
  · have HP' := Lib.hid (show Calls Try.prog 64 #[.pointer (some ⟨q, 0, none⟩), .int .i32 1] w _ from HP.out)
    go_enter Try.func66, Try.ntmps66
    go_wp2_with (go_at_call 64; refine HP'.out.mono ?_; rintro e w1 ⟨rfl, h1⟩; have H1 := Lib.hid h1; clear h1)
    go_end0
    exact ⟨rfl, H1.out⟩
theorem truth_mno (h : SM true w B q F cv mv iv sv kv ov s) (b : Bool) (hl : 1000 ≤ s.st.length) :
    Calls Try.prog 66 #[.pointer (some ⟨q, 0, none⟩), .bool b] w fun e w' => e = .panicked faultP ∧ w' = w := by
  have HP := Lib.hid (fun x => push_mno h x hl)
  clear h hl
  cases b
  all_goals
    go_enter Try.func66, Try.ntmps66
    go_wp2_with (go_at_call 64; refine (HP.out _).mono ?_; rintro e w1 ⟨rfl, rfl⟩)
    exact ⟨rfl, rfl, rfl⟩
theorem place_m (h : SM true w B q F cv mv iv sv kv ov s) (p k : Int) (hp : I32 p) (hk : I32 k) (ho : okAt s p k) :
    Calls Try.prog 68 #[.pointer (some ⟨q, 0, none⟩), .int .i32 p, .int .i64 k] w fun e w' => e = .returned (.int .i64 p) ∧ ∃ m, w' = w.drewN m := by
  obtain ⟨a, c, rfl, _⟩ := owns_shape h.mem
  unfold I32 at hp hk; unfold okAt at ho
  have := h.fit.ml
  exact place_ok q 0 s.mem.length c a p k w h.p1 ho.1 hp.2 ho.2.1 hk.2 this ho.2.2
theorem place_mno (h : SM true w B q F cv mv iv sv kv ov s) (p k : Int) (hp : I32 p) (hk : I32 k) (ho : ¬ okAt s p k) :
    Calls Try.prog 68 #[.pointer (some ⟨q, 0, none⟩), .int .i32 p, .int .i64 k] w fun e w' => e = .panicked faultP ∧ ∃ m, w' = w.drewN m := by
  obtain ⟨a, c, rfl, _⟩ := owns_shape h.mem
  unfold I32 at hp hk
  have := h.fit.ml
  exact place_no q 0 s.mem.length c a p k w h.p1 hp.2 hp.1 hk.1 hk.2 this ho
end
end Go.Proofs.Ytgkdphnhfjjepaa

/- The program's sum and reckon. -/
namespace Go.Proofs.Ytgkdphnhfjjepaa
open Go.RowKit Go.Waf
set_option maxRecDepth 100000
set_option linter.unusedVariables false

theorem add_any (a b : Int) (w : World) : Calls Try.prog 70 #[.int .i32 a, .int .i32 b] w fun e w' => e = .returned (.int .i32 (wrap32 (a + b))) ∧ w = w' := by
  go_enter Try.func70, Try.ntmps70
  go_wp2
  go_ret
  exact ⟨rfl, rfl⟩
theorem sub_any (a b : Int) (w : World) : Calls Try.prog 65 #[.int .i32 a, .int .i32 b] w fun e w' => e = .returned (.int .i32 (wrap32 (a - b))) ∧ w = w' := by
  go_enter Try.func65, Try.ntmps65
  go_wp2
  go_ret
  exact ⟨rfl, rfl⟩
theorem mul_any (a b : Int) (w : World) : Calls Try.prog 71 #[.int .i32 a, .int .i32 b] w fun e w' => e = .returned (.int .i32 (wrap32 (a * b))) ∧ w = w' := by
  go_enter Try.func71, Try.ntmps71
  go_wp2
  go_ret
  exact ⟨rfl, rfl⟩
def isSum (op : Int) : Prop := op = 9 ∨ op = 10 ∨ op = 11 ∨ op = 12 ∨ op = 13 ∨ op = 15 ∨ op = 16 ∨ op = 17 ∨ op = 19 ∨ op = 20 ∨ op = 21
set_option maxHeartbeats 1600000 in
theorem sum_some (op a b x : Int) (w : World) (ho : isSum op) (ha : I32 a) (hb : I32 b) (hs : sumV op a b = some x) :
    Calls Try.prog 67 #[.int .i64 op, .int .i32 a, .int .i32 b] w fun e w' => e = .returned (.tuple #[.int .i32 x, .bool true]) ∧ w' = w := by
  unfold I32 at ha hb
  obtain ⟨ha0, ha1⟩ := ha
  obtain ⟨hb0, hb1⟩ := hb
  rcases ho with rfl | rfl | rfl | rfl | rfl | rfl | rfl | rfl | rfl | rfl | rfl
  · obtain rfl : wrap32 (a + b) = x := by simpa [sumV] using hs
    clear hs
    go_enter Try.func67, Try.ntmps67
    go_wp2_with (go_at_call 70; refine (add_any a b _).mono ?_; rintro e w1 ⟨rfl, rfl⟩)
    go_ret2
    exact ⟨rfl, rfl⟩
  · obtain rfl : wrap32 (a - b) = x := by simpa [sumV] using hs
    clear hs
    go_enter Try.func67, Try.ntmps67
    go_wp2_with (go_at_call 65; refine (sub_any a b _).mono ?_; rintro e w1 ⟨rfl, rfl⟩)
    go_ret2
    exact ⟨rfl, rfl⟩
  · obtain rfl : wrap32 (a * b) = x := by simpa [sumV] using hs
    clear hs
    go_enter Try.func67, Try.ntmps67
    go_wp2_with (go_at_call 71; refine (mul_any a b _).mono ?_; rintro e w1 ⟨rfl, rfl⟩)
    go_ret2
    exact ⟨rfl, rfl⟩
  · obtain ⟨hd, rfl⟩ : 1 ≤ b ∧ a / b = x := by simpa [sumV] using hs
    clear hs
    have HC := Lib.hid (div_yes a b w hd ha0 ha1)
    go_enter Try.func67, Try.ntmps67
    go_wp2_with (go_at_call 72; refine HC.out.mono ?_; rintro e w1 ⟨rfl, rfl⟩)
    go_ret2
    exact ⟨rfl, rfl⟩
  · obtain ⟨hd, rfl⟩ : 1 ≤ b ∧ a % b = x := by simpa [sumV] using hs
    clear hs
    have HC := Lib.hid (mod_yes a b w hd hb1)
    go_enter Try.func67, Try.ntmps67
    go_wp2_with (go_at_call 73; refine HC.out.mono ?_; rintro e w1 ⟨rfl, rfl⟩)
    go_ret2
    exact ⟨rfl, rfl⟩
  · obtain rfl : bits .and .i32 a b = x := by simpa [sumV] using hs
    clear hs
    go_enter Try.func67, Try.ntmps67
    go_wp2_with fail
    go_ret2
    exact ⟨rfl, rfl⟩
  · obtain rfl : bits .or .i32 a b = x := by simpa [sumV] using hs
    clear hs
    go_enter Try.func67, Try.ntmps67
    go_wp2_with fail
    go_ret2
    exact ⟨rfl, rfl⟩
  · obtain rfl : bits .xor .i32 a b = x := by simpa [sumV] using hs
    clear hs
    go_enter Try.func67, Try.ntmps67
    go_wp2_with fail
    go_ret2
    exact ⟨rfl, rfl⟩
  · have HS := Lib.hid (show wrap32 (a * 2 ^ (b % 32).toNat) = x by simpa [sumV] using hs)
    clear hs
    go_enter Try.func67, Try.ntmps67
    go_wp2_with (go_at_call 74; refine (lsl_any a b _).mono ?_; rw [HS.out]; rintro e w1 ⟨rfl, rfl⟩)
    go_ret2
    exact ⟨rfl, rfl⟩
  · have HS := Lib.hid (show a / 2 ^ (b % 32).toNat = x by simpa [sumV] using hs)
    clear hs
    go_enter Try.func67, Try.ntmps67
    go_wp2_with (go_at_call 75; refine (asr_any a b _).mono ?_; rw [HS.out]; rintro e w1 ⟨rfl, rfl⟩)
    go_ret2
    exact ⟨rfl, rfl⟩
  · have HS := Lib.hid (show ror a b = x by simpa [sumV] using hs)
    clear hs
    go_enter Try.func67, Try.ntmps67
    go_wp2_with (go_at_call 76; refine (ror_any a b _).mono ?_; rw [HS.out]; rintro e w1 ⟨rfl, rfl⟩)
    go_ret2
    exact ⟨rfl, rfl⟩
theorem sum_none (op a b : Int) (w : World) (ho : isSum op) (hs : sumV op a b = none) :
    Calls Try.prog 67 #[.int .i64 op, .int .i32 a, .int .i32 b] w fun e w' => e = .returned (.tuple #[.int .i32 0, .bool false]) ∧ w' = w := by
  rcases ho with rfl | rfl | rfl | rfl | rfl | rfl | rfl | rfl | rfl | rfl | rfl
  · simp [sumV] at hs
  · simp [sumV] at hs
  · simp [sumV] at hs
  · have hd : b < 1 := by simp [sumV] at hs; omega
    clear hs
    have HC := Lib.hid (div_no a b w hd)
    go_enter Try.func67, Try.ntmps67
    go_wp2_with (go_at_call 72; refine HC.out.mono ?_; rintro e w1 ⟨rfl, rfl⟩)
    go_ret2
    exact ⟨rfl, rfl⟩
  · have hd : b < 1 := by simp [sumV] at hs; omega
    clear hs
    have HC := Lib.hid (mod_no a b w hd)
    go_enter Try.func67, Try.ntmps67
    go_wp2_with (go_at_call 73; refine HC.out.mono ?_; rintro e w1 ⟨rfl, rfl⟩)
    go_ret2
    exact ⟨rfl, rfl⟩
  · simp [sumV] at hs
  · simp [sumV] at hs
  · simp [sumV] at hs
  · simp [sumV] at hs
  · simp [sumV] at hs
  · simp [sumV] at hs
end Go.Proofs.Ytgkdphnhfjjepaa

/- The program's reckon. -/
namespace Go.Proofs.Ytgkdphnhfjjepaa
open Go.RowKit Go.Waf
set_option maxRecDepth 100000
set_option linter.unusedVariables false

/-- What is left behind a fault: all but the operands, the input, the places stand. -/
def PnP (w : World) (B q : Nat) (F : Nat → Prop) (cv mv kv ov : Value) (s : SSt) (w' : World) : Prop :=
  ∃ F' iv' sv' s'', SM true w' B q F' cv mv iv' sv' kv ov s'' ∧ (s''.mem = s.mem ∧ s''.kept = s.kept ∧ s''.out = s.out ∧ s''.code = s.code) ∧ Mv w F F' w'
section
variable {w : World} {B q : Nat} {F : Nat → Prop} {cv mv iv sv kv ov : Value} {s : SSt}
theorem PnP.same (h : SM true w B q F cv mv iv sv kv ov s) : PnP w B q F cv mv kv ov s w := ⟨F, iv, sv, s, h, ⟨rfl, rfl, rfl, rfl⟩, Mv.refl _ _⟩
theorem PnP.of {w1 : World} {F1 : Nat → Prop} {iv1 sv1 : Value} {s1 : SSt} (h : SM true w1 B q F1 cv mv iv1 sv1 kv ov s1) (hm : Mv w F F1 w1) (e1 : s1.mem = s.mem) (e2 : s1.kept = s.kept) (e3 : s1.out = s.out) (e4 : s1.code = s.code) : PnP w B q F cv mv kv ov s w1 := ⟨F1, iv1, sv1, s1, h, ⟨e1, e2, e3, e4⟩, hm⟩
theorem inv_bits (b : Int) (h0 : -2147483648 ≤ b) (h1 : b ≤ 2147483647) : bits .xor .i32 (-1) b = -1 - b := by
  show IntKind.i32.wrap ((BitVec.ofInt 32 (-1) ^^^ BitVec.ofInt 32 b).toNat : Int) = _
  rw [i32_wrap, ofInt_toNat]
  have e1 : BitVec.ofInt 32 (-1) = BitVec.allOnes 32 := by decide
  rw [e1, BitVec.allOnes_xor, BitVec.toInt_not]
  rw [BitVec.toNat_ofInt]
  simp only [Int.bmod]
  omega
set_option maxHeartbeats 1600000 in
theorem reckon_14 (h : SM true w B q F cv mv iv sv kv ov s) {b : Int} {t : List Int} (hst : s.st = b :: t) :
    Calls Try.prog 51 #[.pointer (some ⟨q, 0, none⟩), .int .i64 14] w fun e w' => e = .returned (.tuple #[]) ∧ OpP w B q F cv mv iv kv ov { s with st := wrap32 (0 - b) :: t } w' := by
  have hl : t.length < 1000 := by have := h.fit.sl; rw [hst] at this; simp at this; omega
  have P1 := Lib.hid (pop_m h hst)
  have HS := Lib.hid (fun W => sub_any 0 b W)
  have hxi := wrap32_le (0 - b)
  generalize hX : wrap32 (0 - b) = X at HS hxi ⊢
  clear h hst hX
  go_enter Try.func51, Try.ntmps51
  go_wp2_with fail
  refine P1.out.mono ?_; rintro e w1 ⟨rfl, F1, sv1, h1, m1⟩
  have H1 := Lib.hid h1
  have M1 := Lib.hid m1
  clear h1 m1
  go_wp2_with fail
  refine (HS.out _).mono ?_; rintro e w2 ⟨rfl, rfl⟩
  have P2 := Lib.hid (push_m H1.out X hxi hl)
  go_wp2_with fail
  refine P2.out.mono ?_; rintro e w3 ⟨rfl, F2, sv2, h2, m2⟩
  have H2 := Lib.hid h2
  have M2 := Lib.hid m2
  clear h2 m2
  go_wp2_with fail
  refine bodyPost_ret (results_none rfl _ _ _) rfl ?_
  exact ⟨rfl, F2, sv2, H2.out, M1.out.trans M2.out⟩
set_option maxHeartbeats 1600000 in
theorem reckon_18 (h : SM true w B q F cv mv iv sv kv ov s) {b : Int} {t : List Int} (hst : s.st = b :: t) :
    Calls Try.prog 51 #[.pointer (some ⟨q, 0, none⟩), .int .i64 18] w fun e w' => e = .returned (.tuple #[]) ∧ OpP w B q F cv mv iv kv ov { s with st := (-1 - b) :: t } w' := by
  have hl : t.length < 1000 := by have := h.fit.sl; rw [hst] at this; simp at this; omega
  have hb : I32 b := h.fit.st b (by rw [hst]; exact List.mem_cons_self ..)
  have P1 := Lib.hid (pop_m h hst)
  unfold I32 at hb
  obtain ⟨hb0, hb1⟩ := hb
  clear h hst
  go_enter Try.func51, Try.ntmps51
  go_wp2_with fail
  refine P1.out.mono ?_; rintro e w1 ⟨rfl, F1, sv1, h1, m1⟩
  have H1 := Lib.hid h1
  have M1 := Lib.hid m1
  clear h1 m1
  have P2 := Lib.hid (push_m H1.out (bits .xor .i32 (-1) b) (xor_i32_in _ _) hl)
  go_wp2_with fail
  refine P2.out.mono ?_; rintro e w3 ⟨rfl, F2, sv2, h2, m2⟩
  have H2 := Lib.hid h2
  have M2 := Lib.hid m2
  clear h2 m2
  go_wp2_with fail
  refine bodyPost_ret (results_none rfl _ _ _) rfl ?_
  exact ⟨rfl, F2, sv2, by rw [← inv_bits b hb0 hb1]; exact H2.out, M1.out.trans M2.out⟩
def isCmp (op a b : Int) (r : Bool) : Prop := (op = 22 ∧ r = (a == b)) ∨ (op = 23 ∧ r = decide (a < b)) ∨ (op = 24 ∧ r = decide (a ≤ b))
set_option maxHeartbeats 1600000 in
theorem reckon_cmp (h : SM true w B q F cv mv iv sv kv ov s) {op a b : Int} {r : Bool} {t : List Int} (hst : s.st = b :: a :: t) (ho : isCmp op a b r) :
    Calls Try.prog 51 #[.pointer (some ⟨q, 0, none⟩), .int .i64 op] w fun e w' => e = .returned (.tuple #[]) ∧ OpP w B q F cv mv iv kv ov { s with st := tell r :: t } w' := by
  have hl : t.length < 1000 := by have := h.fit.sl; rw [hst] at this; simp at this; omega
  have P1 := Lib.hid (pop_m h hst)
  clear h hst
  rcases ho with ⟨rfl, hr⟩ | ⟨rfl, hr⟩ | ⟨rfl, hr⟩
  all_goals
    have HR := Lib.hid hr
    clear hr
    go_enter Try.func51, Try.ntmps51
    go_wp2_with fail
    refine P1.out.mono ?_; rintro e w1 ⟨rfl, F1, sv1, h1, m1⟩
    have P2 := Lib.hid (pop_m h1 (x := a) (t := t) rfl)
    have M1 := Lib.hid m1
    clear h1 m1
    go_wp2_with fail
    refine P2.out.mono ?_; rintro e w2 ⟨rfl, F2, sv2, h2, m2⟩
    have P3 := Lib.hid (truth_m h2 r hl)
    rw [HR.out] at P3
    have M2 := Lib.hid m2
    clear h2 m2
    go_wp2_with fail
    refine P3.out.mono ?_; rintro e w3 ⟨rfl, F3, sv3, h3, m3⟩
    have H3 := Lib.hid h3
    have M3 := Lib.hid m3
    clear h3 m3
    go_wp2_with fail
    go_end0
    refine ⟨rfl, F3, sv3, ?_, (M1.out.trans M2.out).trans M3.out⟩
    rw [HR.out]; exact H3.out
set_option maxHeartbeats 3200000 in
theorem reckon_sum (h : SM true w B q F cv mv iv sv kv ov s) {op a b x : Int} {t : List Int} (hst : s.st = b :: a :: t) (ho : isSum op) (hx : sumV op a b = some x) :
    Calls Try.prog 51 #[.pointer (some ⟨q, 0, none⟩), .int .i64 op] w fun e w' => e = .returned (.tuple #[]) ∧ OpP w B q F cv mv iv kv ov { s with st := x :: t } w' := by
  have hl : t.length < 1000 := by have := h.fit.sl; rw [hst] at this; simp at this; omega
  have ha : I32 a := h.fit.st a (by rw [hst]; simp)
  have hb : I32 b := h.fit.st b (by rw [hst]; simp)
  have HX := Lib.hid (sumV_in ha hb hx)
  have HS := Lib.hid (fun W => sum_some op a b x W ho ha hb hx)
  have P1 := Lib.hid (pop_m h hst)
  have t1 : (op == 14) = false := by unfold isSum at ho; simp; omega
  have t2 : (op == 18) = false := by unfold isSum at ho; simp; omega
  have t3 : (op == 22) = false := by unfold isSum at ho; simp; omega
  have t4 : (op == 23) = false := by unfold isSum at ho; simp; omega
  have t5 : (op == 24) = false := by unfold isSum at ho; simp; omega
  clear h hst ho hx ha hb
  go_enter Try.func51, Try.ntmps51
  go_wp2_with fail
  refine P1.out.mono ?_; rintro e w1 ⟨rfl, F1, sv1, h1, m1⟩
  have P2 := Lib.hid (pop_m h1 (x := a) (t := t) rfl)
  have M1 := Lib.hid m1
  clear h1 m1
  go_wp2_with fail
  refine P2.out.mono ?_; rintro e w2 ⟨rfl, F2, sv2, h2, m2⟩
  have P3 := Lib.hid (push_m h2 x HX.out hl)
  have M2 := Lib.hid m2
  clear h2 m2
  go_wp2_with fail
  refine (HS.out _).mono ?_; rintro e w2 ⟨rfl, rfl⟩
  go_wp2_with fail
  refine (must_ok _).mono ?_; rintro e w2 ⟨rfl, rfl⟩
  go_wp2_with fail
  refine P3.out.mono ?_; rintro e w3 ⟨rfl, F3, sv3, h3, m3⟩
  have H3 := Lib.hid h3
  have M3 := Lib.hid m3
  clear h3 m3
  go_wp2_with fail
  go_end0
  exact ⟨rfl, F3, sv3, H3.out, (M1.out.trans M2.out).trans M3.out⟩
set_option maxHeartbeats 3200000 in
theorem reckon_sno (h : SM true w B q F cv mv iv sv kv ov s) {op a b : Int} {t : List Int} (hst : s.st = b :: a :: t) (ho : isSum op) (hx : sumV op a b = none) :
    Calls Try.prog 51 #[.pointer (some ⟨q, 0, none⟩), .int .i64 op] w fun e w' => e = .panicked faultP ∧ PnP w B q F cv mv kv ov s w' := by
  have HS := Lib.hid (fun W => sum_none op a b W ho hx)
  have P1 := Lib.hid (pop_m h hst)
  have t1 : (op == 14) = false := by unfold isSum at ho; simp; omega
  have t2 : (op == 18) = false := by unfold isSum at ho; simp; omega
  have t3 : (op == 22) = false := by unfold isSum at ho; simp; omega
  have t4 : (op == 23) = false := by unfold isSum at ho; simp; omega
  have t5 : (op == 24) = false := by unfold isSum at ho; simp; omega
  clear h hst ho hx
  go_enter Try.func51, Try.ntmps51
  go_wp2_with fail
  refine P1.out.mono ?_; rintro e w1 ⟨rfl, F1, sv1, h1, m1⟩
  have P2 := Lib.hid (pop_m h1 (x := a) (t := t) rfl)
  have M1 := Lib.hid m1
  clear h1 m1
  go_wp2_with fail
  refine P2.out.mono ?_; rintro e w2 ⟨rfl, F2, sv2, h2, m2⟩
  have H2 := Lib.hid h2
  have M2 := Lib.hid m2
  clear h2 m2
  go_wp2_with fail
  refine (HS.out _).mono ?_; rintro e w2 ⟨rfl, rfl⟩
  go_wp2_with fail
  refine (must_no _).mono ?_; rintro e w2 ⟨rfl, rfl⟩
  exact ⟨rfl, rfl, PnP.of H2.out (M1.out.trans M2.out) rfl rfl rfl rfl⟩
theorem reckon_no0 (h : SM true w B q F cv mv iv sv kv ov s) {op : Int} (hst : s.st = []) :
    Calls Try.prog 51 #[.pointer (some ⟨q, 0, none⟩), .int .i64 op] w fun e w' => e = .panicked faultP ∧ PnP w B q F cv mv kv ov s w' := by
  have P1 := Lib.hid (pop_mno h hst)
  have H := Lib.hid h
  clear h hst
  go_enter Try.func51, Try.ntmps51
  go_wp2_with fail
  refine P1.out.mono ?_; rintro e w1 ⟨rfl, rfl⟩
  exact ⟨rfl, rfl, PnP.same H.out⟩
theorem reckon_no1 (h : SM true w B q F cv mv iv sv kv ov s) {op b : Int} (hst : s.st = [b]) (h14 : op ≠ 14) (h18 : op ≠ 18) :
    Calls Try.prog 51 #[.pointer (some ⟨q, 0, none⟩), .int .i64 op] w fun e w' => e = .panicked faultP ∧ PnP w B q F cv mv kv ov s w' := by
  have P1 := Lib.hid (pop_m h hst)
  have t1 : (op == 14) = false := by simp; omega
  have t2 : (op == 18) = false := by simp; omega
  clear h hst h14 h18
  go_enter Try.func51, Try.ntmps51
  go_wp2_with fail
  refine P1.out.mono ?_; rintro e w1 ⟨rfl, F1, sv1, h1, m1⟩
  have P2 := Lib.hid (pop_mno h1 rfl)
  have H1 := Lib.hid h1
  have M1 := Lib.hid m1
  clear h1 m1
  go_wp2_with fail
  refine P2.out.mono ?_; rintro e w2 ⟨rfl, rfl⟩
  exact ⟨rfl, rfl, PnP.of H1.out M1.out rfl rfl rfl rfl⟩
theorem reckon_any (h : SM true w B q F cv mv iv sv kv ov s) {op : Int} (h9 : 9 ≤ op) (h24 : op ≤ 24) :
    Calls Try.prog 51 #[.pointer (some ⟨q, 0, none⟩), .int .i64 op] w fun e w' =>
      (∃ s', s.reckon op = some s' ∧ e = .returned (.tuple #[]) ∧ OpP w B q F cv mv iv kv ov s' w') ∨ (s.reckon op = none ∧ e = .panicked faultP ∧ PnP w B q F cv mv kv ov s w') := by
  cases hst : s.st with
  | nil => exact (reckon_no0 h hst).mono fun e w' ⟨h1, h2⟩ => .inr ⟨by unfold SSt.reckon; rw [hst], h1, h2⟩
  | cons b t =>
    by_cases h14 : op = 14
    · subst h14; exact (reckon_14 h hst).mono fun e w' ⟨h1, h2⟩ => .inl ⟨_, by unfold SSt.reckon; rw [hst]; rfl, h1, h2⟩
    by_cases h18 : op = 18
    · subst h18; exact (reckon_18 h hst).mono fun e w' ⟨h1, h2⟩ => .inl ⟨_, by unfold SSt.reckon; rw [hst]; rfl, h1, h2⟩
    cases t with
    | nil => exact (reckon_no1 h hst h14 h18).mono fun e w' ⟨h1, h2⟩ => .inr ⟨by unfold SSt.reckon; rw [hst]; simp [h14, h18], h1, h2⟩
    | cons a t =>
      have hre : s.reckon op = (two op a b).map fun x => { s with st := x :: t } := by unfold SSt.reckon; rw [hst]; simp [h14, h18]
      rw [hre]
      by_cases hc : ∃ r, isCmp op a b r ∧ two op a b = some (tell r)
      · obtain ⟨r, hc, hr⟩ := hc
        exact (reckon_cmp h hst hc).mono fun e w' ⟨h1, h2⟩ => .inl ⟨_, by rw [hr]; rfl, h1, h2⟩
      · have h22 : op ≠ 22 := fun e => hc ⟨_, .inl ⟨e, rfl⟩, by simp [two, e]⟩
        have h23 : op ≠ 23 := fun e => hc ⟨_, .inr (.inl ⟨e, rfl⟩), by simp [two, e]⟩
        have h24' : op ≠ 24 := fun e => hc ⟨_, .inr (.inr ⟨e, rfl⟩), by simp [two, e]⟩
        have h2 : two op a b = sumV op a b := by simp [two, h22, h23, h24']
        have ho : isSum op := by unfold isSum; omega
        rw [h2]
        cases hx : sumV op a b with
        | some x => exact (reckon_sum h hst ho hx).mono fun e w' ⟨h1, h2⟩ => .inl ⟨_, rfl, h1, h2⟩
        | none => exact (reckon_sno h hst ho hx).mono fun e w' ⟨h1, h2⟩ => .inr ⟨rfl, h1, h2⟩
end
end Go.Proofs.Ytgkdphnhfjjepaa
