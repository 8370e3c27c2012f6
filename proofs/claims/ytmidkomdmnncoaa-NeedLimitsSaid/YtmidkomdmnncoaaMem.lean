/- Slices that are read, slices that are the call's own, appended to: the guide's laws in one form, for whatever program. -/
import Derived.WalkKit
import Derived.WalkLawsBesides
import Derived.WalkSpells
import Derived.Laws.AppendOwnNone
import Derived.Lib.Hide
import Derived.Lib.SliceRun
import Derived.Laws.BytesArg
import Derived.ProofKit
import Derived.OpenShut
namespace Go.Waf
open Go.RowKit

/-- What is known of a slice type t of elements e. -/
structure Elem (P : Program) (t e size bytes : Nat) : Prop where
  und : P.underlying t = some (.slice e)
  info : ∃ i z, P.info? e = some i ∧ i.zero = some z ∧ i.size = size ∧ i.bytes = bytes ∧ z.cells.size = size
  pos : 0 < size

theorem Elem.mk' {P : Program} {t e size bytes : Nat} {z : Value} (hu : P.underlying t = some (.slice e)) (h : (P.info? e).map (fun i => (i.zero, i.size, i.bytes)) = some (some z, size, bytes)) (hz : z.cells.size = size) (hp : 0 < size) : Elem P t e size bytes := by
  refine ⟨hu, ?_, hp⟩
  cases hi : P.info? e with
  | none => rw [hi] at h; simp at h
  | some i =>
    rw [hi] at h
    simp only [Option.map_some, Option.some.injEq, Prod.mk.injEq] at h
    exact ⟨i, z, rfl, h.1, h.2.1, h.2.2, hz⟩
/-- The slice v has n elements, whose cells (size each) hold cs: nil, or empty, or at an address. -/
def Rd (w : World) (size : Nat) (v : Value) (n : Nat) (cs : List Value) : Prop :=
  cs.length = n * size ∧ ∃ a cap, v = .slice a n cap ∧ n ≤ cap ∧ cap ≤ maxLen ∧ (a = none → cap = 0) ∧
    (0 < n → ∃ b off, a = some ⟨b, off, none⟩ ∧ ∀ j u, cs[j]? = some u → w.cell? ⟨b, off + j, none⟩ = some u)

theorem Rd.nil (w : World) (size : Nat) : Rd w size (.slice none 0 0) 0 [] := ⟨by simp, none, 0, rfl, Nat.le_refl _, by simp [maxLen], fun _ => rfl, fun h => absurd h (by omega)⟩

theorem Rd.of_cells {w : World} {size b off n cap : Nat} {cs : List Value} (hl : cs.length = n * size) (h1 : n ≤ cap) (h2 : cap ≤ maxLen) (h : ∀ j u, cs[j]? = some u → w.cell? ⟨b, off + j, none⟩ = some u) : Rd w size (.slice (some ⟨b, off, none⟩) n cap) n cs :=
  ⟨hl, _, _, rfl, h1, h2, by simp, fun _ => ⟨b, off, rfl, h⟩⟩

theorem Rd.keep {w w' : World} {size n : Nat} {v : Value} {cs : List Value} (h : Rd w size v n cs) (hk : ∀ b o u, w.cell? ⟨b, o, none⟩ = some u → w'.cell? ⟨b, o, none⟩ = some u) : Rd w' size v n cs := by
  obtain ⟨hl, a, cap, rfl, h1, h2, h3, h4⟩ := h
  refine ⟨hl, a, cap, rfl, h1, h2, h3, fun hn => ?_⟩
  obtain ⟨b, off, rfl, hc⟩ := h4 hn
  exact ⟨b, off, rfl, fun j u hu => hk _ _ _ (hc j u hu)⟩

theorem Rd.below {w w' : World} {size n B : Nat} {v : Value} {cs : List Value} (h : Rd w size v n cs) (hb : Below B w w') (hB : w.heap.size ≤ B) : Rd w' size v n cs :=
  h.keep fun b o u hu => by rw [hb.cell (p := ⟨b, o, none⟩) (Nat.lt_of_lt_of_le (World.block_lt_of_cell? w _ hu) hB)]; exact hu

/-- A new block, read whole. -/
theorem rd_new (w : World) (cs : List Value) (t : TypeId) (n size : Nat) (hl : cs.length = n * size) (hm : n ≤ maxLen) : Rd (w.alloc (.cells cs.toArray t)) size (.slice (some ⟨w.heap.size, 0, none⟩) n n) n cs :=
  Rd.of_cells hl (Nat.le_refl _) hm fun j u hu => by
    rw [World.cell?_alloc_new]
    simpa using hu
theorem rd_of_owns {w : World} {base e size n : Nat} {v : Value} {cs : List Value} (h : w.ownsRow base e size v n cs) : Rd w size v n cs := by
  refine ⟨h.1, ?_⟩
  rcases h.2 with ⟨rfl, rfl⟩ | ⟨g, cap, cur, rfl, hb, hg, h1, h2, hs, ht⟩
  · exact ⟨none, 0, rfl, Nat.le_refl _, by simp [maxLen], fun _ => rfl, fun h => absurd h (by omega)⟩
  · refine ⟨_, cap, rfl, h1, h2, by simp, fun _ => ⟨g, 0, rfl, fun j u hu => ?_⟩⟩
    have hc := h.cells (g := g) rfl j u hu
    rwa [Addr.add_lit] at hc

theorem owns_mono {w : World} {base base' e size n : Nat} {v : Value} {cs : List Value} (h : w.ownsRow base e size v n cs) (hb : base' ≤ base) : w.ownsRow base' e size v n cs := by
  refine ⟨h.1, ?_⟩
  rcases h.2 with h | ⟨g, cap, cur, hv, hg, r⟩
  · exact .inl h
  · exact .inr ⟨g, cap, cur, hv, Nat.le_trans hb hg, r⟩
/-- A piece of what is read. -/
theorem Rd.drop {w : World} {size n b off cap : Nat} {cs : List Value} (i : Nat) (hi : i ≤ n) (h : Rd w size (.slice (some ⟨b, off, none⟩) n cap) n cs) : Rd w size (.slice (some ⟨b, off + i * size, none⟩) (n - i) (cap - i)) (n - i) (cs.drop (i * size)) := by
  obtain ⟨hl, a, c, he, h1, h2, h3, h4⟩ := h
  cases he
  refine ⟨by rw [List.length_drop, hl, Nat.sub_mul], _, _, rfl, by omega, by omega, by simp, fun hn => ⟨b, _, rfl, fun j u hu => ?_⟩⟩
  obtain ⟨b', off', e, hc⟩ := h4 (by omega)
  cases e
  rw [List.getElem?_drop] at hu
  rw [Nat.add_assoc]
  exact hc _ _ hu
theorem Rd.take {w : World} {size n cap : Nat} {a : Option Addr} {cs : List Value} (i cap' : Nat) (hi : i ≤ n) (hc' : i ≤ cap') (hc2 : cap' ≤ cap) (h : Rd w size (.slice a n cap) n cs) : Rd w size (.slice a i cap') i (cs.take (i * size)) := by
  obtain ⟨hl, a', c, he, h1, h2, h3, h4⟩ := h
  cases he
  have : i * size ≤ n * size := Nat.mul_le_mul_right _ hi
  refine ⟨by rw [List.length_take, hl]; omega, _, _, rfl, hc', by omega, fun ha => by have := h3 ha; omega, fun hn => ?_⟩
  obtain ⟨b, off, rfl, hc⟩ := h4 (by omega)
  refine ⟨b, off, rfl, fun j u hu => hc j u ?_⟩
  rw [List.getElem?_take] at hu
  split at hu
  · exact hu
  · cases hu

section
variable {P : Program} (w : World) {t e size bytes : Nat}
/-- append onto a slice of the call's own, whatever is appended. -/
theorem app_own {ops : Array Oper} {rest : List Oper} {o : Oper} {a : Act} {Q : Exit → Act → World → Prop} (E : Elem P t e size bytes) (hgd : o.guard = none) (s x : Operand)
    (ho : o.op = .call { callee := .builtin .append, args := #[s, x], argTypes := #[t, t] })
    (base : Nat) (v : Value) (n : Nat) (xs : List Value) (hs : a.eval s = v) (hown : w.ownsRow base e size v n xs)
    (vx : Value) (m : Nat) (news : List Value) (hx : a.eval x = vx) (hr : Rd w size vx m news) (h1 : ∀ u ∈ news, u.oneCell' = true)
    (h63 : n + m ≤ maxLen) (hbytes : (n + m) * bytes ≤ 140737488355328) (hbase : base ≤ w.heap.size)
    (h : ∀ v' w', w'.ownsRow base e size v' (n + m) (xs ++ news) → w.grownBy w' v.ownBlock → wpList P ops Q rest (a.put o.dst v') w') : wpList P ops Q (o :: rest) a w := by
  obtain ⟨i, z, hi, hz, hsi, hb, hzs⟩ := E.info
  obtain ⟨hl, ad, cap, rfl, c1, c2, c3, c4⟩ := hr
  cases ad with
  | none =>
    have : cap = 0 := c3 rfl
    obtain rfl : m = 0 := by omega
    obtain rfl : news = [] := List.eq_nil_of_length_eq_zero (by simpa using hl)
    subst this
    refine wpList_append_own_none hgd s x t ho base e i size E.und hi v n xs hs hown hx ?_
    exact h v w (by simpa using hown) (World.grownBy.refl w _)
  | some ad =>
    refine wpList_append_own w hgd s x t ho base e i z size bytes E.und hi hz hsi hb hzs E.pos v n xs hs hown ad m cap news hx hl ?_ h1 h63 hbytes hbase fun v' w' h2 h3 _ => h v' w' h2 h3
    intro j u hu
    have hn : 0 < m := by
      rcases Nat.eq_zero_or_pos m with h0 | h0
      · subst h0
        obtain rfl : news = [] := List.eq_nil_of_length_eq_zero (by simpa using hl)
        simp at hu
      · exact h0
    obtain ⟨b, off, e1, hc⟩ := c4 hn
    cases e1
    rw [Addr.add_lit]; exact hc j u hu

/-- append onto a slice without room (its capacity is its length): what comes is the call's own. -/
theorem app_full {ops : Array Oper} {rest : List Oper} {o : Oper} {a : Act} {Q : Exit → Act → World → Prop} (E : Elem P t e size bytes) (hgd : o.guard = none) (s x : Operand)
    (ho : o.op = .call { callee := .builtin .append, args := #[s, x], argTypes := #[t, t] })
    (ao : Option Addr) (n : Nat) (xs : List Value) (hs : a.eval s = .slice ao n n) (hown : Rd w size (.slice ao n n) n xs)
    (vx : Value) (m : Nat) (news : List Value) (hx : a.eval x = vx) (hr : Rd w size vx m news) (h1 : ∀ u ∈ news, u.oneCell' = true) (hm : 0 < m)
    (h63 : n + m ≤ maxLen) (hbytes : (n + m) * bytes ≤ 140737488355328)
    (h : ∀ v' w', w'.ownsRow w.heap.size e size v' (n + m) (xs ++ news) → w.grownBy w' none → wpList P ops Q rest (a.put o.dst v') w') : wpList P ops Q (o :: rest) a w := by
  obtain ⟨i, z, hi, hz, hsi, hb, hzs⟩ := E.info
  obtain ⟨hl, ad, cap, rfl, c1, c2, c3, c4⟩ := hr
  obtain ⟨hl', ad', cap', he, d1, d2, d3, d4⟩ := hown
  cases he
  obtain ⟨b, off, rfl, hc⟩ := c4 hm
  refine wpList_append_grows w hgd s x t ho e i z size bytes E.und hi hz hsi hb hzs E.pos ao n n xs hs (fun ha => by have := d3 ha; omega) hl' ?_ _ m cap news hx hl (fun j u hu => by rw [Addr.add_lit]; exact hc j u hu) h1 (by omega) h63 hbytes h
  intro bb hbb j u hu
  subst hbb
  have hn : 0 < n := by
    rcases Nat.eq_zero_or_pos n with h0 | h0
    · subst h0
      obtain rfl : xs = [] := List.eq_nil_of_length_eq_zero (by simpa using hl')
      simp at hu
    · exact h0
  obtain ⟨b', off', e1, hc'⟩ := d4 hn
  cases e1
  rw [Addr.add_lit]; exact hc' j u hu
end

theorem below_drewN {B : Nat} {a w : World} (h : Below B a w) (n : Nat) : Below B a (w.drewN n) := ⟨h.os, h.tape, h.output, h.size, h.block⟩
theorem quiet_left {P : Program} {f : FuncId} {args : Array Value} {w : World} {n : Nat} {v : Value}
    (h : Calls P f args (w.drewN n) fun e w' => e = .returned v ∧ w.drewN n = w') : Calls P f args (w.drewN n) fun e w'' => e = .returned v ∧ ∃ m, w'' = w.drewN m :=
  h.mono fun _ _ ⟨he, hm⟩ => ⟨he, n, hm.symm⟩

/-- Bytes as values. -/
def byt (xs : List Int) : List Value := xs.map (Value.int .u8)
theorem one_byt (xs : List Int) : ∀ u ∈ byt xs, u.oneCell' = true := by
  intro u hu; obtain ⟨n, _, rfl⟩ := List.mem_map.1 hu; rfl
theorem byt_append (xs ys : List Int) : byt (xs ++ ys) = byt xs ++ byt ys := List.map_append
theorem byt_length (xs : List Int) : (byt xs).length = xs.length := List.length_map ..
theorem byt_get (xs : List Int) (j : Nat) (h : j < xs.length) : (byt xs)[j]? = some (.int .u8 (xs.getD j 0)) := by simp [byt, h]

/-- Bytes as a string. -/
theorem conv_rd {P : Program} {w : World} {src e dst n : Nat} {v : Value} {xs : List Int} (hs : P.underlying src = some (.slice e)) (he : P.underlying e = some (.int .u8)) (hd : P.underlying dst = some .string) (hr : Rd w 1 v n (byt xs)) : (convert src dst v).run P w = .ok (.string (strOfNums xs)) w := by
  obtain ⟨hl, a, cap, rfl, h1, h2, h3, h4⟩ := hr
  have hxl : xs.length = n := by simpa [byt] using hl
  rcases Nat.eq_zero_or_pos n with h0 | h0
  · subst h0
    obtain rfl : xs = [] := List.eq_nil_of_length_eq_zero hxl
    cases a with
    | none => rw [run_convert_bytes_nil w src e hs he 0 cap dst hd]; rfl
    | some a =>
      rw [run_convert_bytes_string w src dst e _ 0 cap hs he hd, run_bytesToString w _ 0 cap [] (by simp [loadCells, loadCellsFrom])]
      rfl
  · obtain ⟨b, off, rfl, hc⟩ := h4 h0
    exact run_convert_bytes_arg w src e hs he b off n cap xs hxl (fun i hi => by
      rw [← hxl] at hi
      exact hc i _ (byt_get xs i hi)) dst hd
/-- A call that hands back a slice of its own, in new memory. -/
def OwnRet (B e size n : Nat) (cs : List Value) (w : World) (en : Ending) (w' : World) : Prop := ∃ v, en = .returned v ∧ w'.ownsRow B e size v n cs ∧ Below B w w'

theorem below_of_grown {B : Nat} {a w w' : World} {row : Option Nat} {base e size n : Nat} {v : Value} {xs : List Value} (h : Below B a w) (hB : B ≤ w.heap.size) (hown : w.ownsRow base e size v n xs) (hbase : B ≤ base) (hrow : row = v.ownBlock) (hg : w.grownBy w' row) : Below B a w' :=
  h.grown hg hB fun k hk => Nat.le_trans hbase (hown.lt k (by rw [← hrow, hk])).1
theorem below_of_grown_none {B : Nat} {a w w' : World} (h : Below B a w) (hB : B ≤ w.heap.size) (hg : w.grownBy w' none) : Below B a w' :=
  h.grown hg hB fun k hk => by cases hk
end Go.Waf
