/- Which blocks a call may turn; append, with where its row lies. -/
import Derived.Test.YtmidkomdmnncoaaMem2
import Derived.Laws.OwnMore
namespace Go.Waf
open Go.RowKit

/-- Only the blocks of F may have turned; what is new is new. -/
structure Fr (F : Nat → Prop) (w w' : World) : Prop where
  os : w'.os = w.os
  tape : w'.tape = w.tape
  output : w'.output = w.output
  size : w.heap.size ≤ w'.heap.size
  block : ∀ k, k < w.heap.size → ¬ F k → w'.heap[k]? = w.heap[k]?
theorem Fr.refl (F : Nat → Prop) (w : World) : Fr F w w := ⟨rfl, rfl, rfl, Nat.le_refl _, fun _ _ _ => rfl⟩
theorem Fr.trans {F F' : Nat → Prop} {a b c : World} (h : Fr F a b) (k : Fr F' b c) (hF : ∀ i, i < a.heap.size → F' i → F i) : Fr F a c :=
  ⟨k.os.trans h.os, k.tape.trans h.tape, k.output.trans h.output, Nat.le_trans h.size k.size, fun i hi hn => (k.block i (Nat.lt_of_lt_of_le hi h.size) (fun hf => hn (hF i hi hf))).trans (h.block i hi hn)⟩
theorem Fr.mono {F F' : Nat → Prop} {a b : World} (h : Fr F a b) (hF : ∀ i, i < a.heap.size → F i → F' i) : Fr F' a b := ⟨h.os, h.tape, h.output, h.size, fun i hi hn => h.block i hi (fun hf => hn (hF i hi hf))⟩
theorem Fr.of_below {B : Nat} {a b : World} (h : Below B a b) : Fr (fun k => B ≤ k) a b := ⟨h.os, h.tape, h.output, h.size, fun i _ hn => h.block i (by omega)⟩
theorem Fr.of_new {F : Nat → Prop} {a b : World} (h : Below a.heap.size a b) : Fr F a b := ⟨h.os, h.tape, h.output, h.size, fun i hi _ => h.block i hi⟩
theorem Fr.of_grown {F : Nat → Prop} {a b : World} {row : Option Nat} (h : a.grownBy b row) (hF : ∀ k, row = some k → F k) : Fr F a b :=
  ⟨h.os, h.tape, h.output, h.size, fun i hi hn => h.block i hi (fun e => hn (hF i e.symm))⟩
theorem Fr.below {F : Nat → Prop} {a b : World} {B : Nat} (h : Fr F a b) (hB : B ≤ a.heap.size) (hF : ∀ i, i < B → ¬ F i) : Below B a b := ⟨h.os, h.tape, h.output, h.size, fun i hi => h.block i (by omega) (hF i hi)⟩
theorem Fr.cell {F : Nat → Prop} {a b : World} (h : Fr F a b) {p : Addr} (hp : p.block < a.heap.size) (hn : ¬ F p.block) : b.cell? p = a.cell? p := World.cell?_of_block (h.block _ hp hn)
theorem Fr.alloc {F : Nat → Prop} {a b : World} (h : Fr F a b) (o : Obj) : Fr F a (b.alloc o) :=
  h.trans (F' := fun _ => False) ⟨rfl, rfl, rfl, by simp, fun k hk _ => Below.heap_alloc _ _ _ hk⟩ (fun _ _ hf => hf.elim)
theorem Fr.setCell {F : Nat → Prop} {a b : World} (h : Fr F a b) {p : Addr} (hp : a.heap.size ≤ p.block ∨ F p.block) (u : Value) : Fr F a (b.setCell p u) :=
  h.trans (F' := fun k => k = p.block) ⟨rfl, rfl, rfl, by simp [World.setCell], fun k _ hk => Below.heap_setCell _ _ _ _ hk⟩ (fun i hi hf => by
    rcases hp with hp | hp
    · subst hf; omega
    · rw [hf]; exact hp)
theorem Fr.drewN {F : Nat → Prop} {a b : World} (h : Fr F a b) (n : Nat) : Fr F a (b.drewN n) := ⟨h.os, h.tape, h.output, h.size, h.block⟩
theorem Fr.drew {F : Nat → Prop} {a b : World} (h : Fr F a b) : Fr F a b.drew := ⟨h.os, h.tape, h.output, h.size, h.block⟩
theorem Fr.rd {F : Nat → Prop} {a b : World} {size n : Nat} {v : Value} {cs : List Value} (h : Fr F a b) (hr : Rd a size v n cs) (hv : ∀ k, v.ownBlock = some k → ¬ F k) : Rd b size v n cs := by
  obtain ⟨hl, ad, cap, rfl, h1, h2, h3, h4⟩ := hr
  refine ⟨hl, ad, cap, rfl, h1, h2, h3, fun hn => ?_⟩
  obtain ⟨bb, off, rfl, hc⟩ := h4 hn
  refine ⟨bb, off, rfl, fun j u hu => ?_⟩
  rw [h.cell (p := ⟨bb, off + j, none⟩) (World.block_lt_of_cell? a _ (hc j u hu)) (hv bb rfl)]
  exact hc j u hu
theorem Fr.owns {F : Nat → Prop} {a b : World} {base e size n : Nat} {v : Value} {cs : List Value} (h : Fr F a b) (ho : a.ownsRow base e size v n cs) (hv : ∀ k, v.ownBlock = some k → ¬ F k) : b.ownsRow base e size v n cs := by
  refine ⟨ho.1, ?_⟩
  rcases ho.2 with hn | ⟨g, cap, cur, rfl, hb, hg, rest⟩
  · exact .inl hn
  · refine .inr ⟨g, cap, cur, rfl, hb, ?_, rest⟩
    rw [h.block g (Array.getElem?_eq_some_iff.1 hg).1 (hv g rfl)]
    exact hg

section
variable {P : Program} (w : World) {t e size bytes : Nat}
/-- append onto a slice of the call's own: its row is the old one, or new. -/
theorem app_own2 {ops : Array Oper} {rest : List Oper} {o : Oper} {a : Act} {Q : Exit → Act → World → Prop} (E : Elem P t e size bytes) (hgd : o.guard = none) (s x : Operand)
    (ho : o.op = .call { callee := .builtin .append, args := #[s, x], argTypes := #[t, t] })
    (base : Nat) (v : Value) (n : Nat) (xs : List Value) (hs : a.eval s = v) (hown : w.ownsRow base e size v n xs)
    (vx : Value) (m : Nat) (news : List Value) (hx : a.eval x = vx) (hr : Rd w size vx m news) (h1 : ∀ u ∈ news, u.oneCell' = true)
    (h63 : n + m ≤ maxLen) (hbytes : (n + m) * bytes ≤ 140737488355328) (hbase : base ≤ w.heap.size)
    (h : ∀ v' w', w'.ownsRow base e size v' (n + m) (xs ++ news) → w.grownBy w' v.ownBlock → (∀ k, v'.ownBlock = some k → v.ownBlock = some k ∨ w.heap.size ≤ k) → wpList P ops Q rest (a.put o.dst v') w') : wpList P ops Q (o :: rest) a w := by
  rcases hown.2 with ⟨rfl, rfl⟩ | ⟨g, cap, cur, rfl, hb, hg, hnc, hcm, hcs, ht⟩
  · have hxs : xs = [] := List.eq_nil_of_length_eq_zero (by simpa using hown.1)
    subst hxs
    refine app_own w E hgd s x ho w.heap.size _ 0 [] hs (World.ownsRow_nil _ _ _ _) vx m news hx hr h1 h63 hbytes (Nat.le_refl _) fun v' w' h2 h3 => h v' w' (owns_mono h2 hbase) h3 fun k hk => .inr (h2.lt k hk).1
  · obtain ⟨i, z, hi, hz, hsi, hby, hzs⟩ := E.info
    obtain ⟨hl, ad, capx, rfl, c1, c2, c3, c4⟩ := hr
    by_cases hroom : n + m ≤ cap
    · refine wpList_append_fits_any w hgd s x t ho base e i size E.und hi hsi g n cap xs hs hown ad m capx news hx hl (fun ha => ⟨by have := c3 ha; omega, c3 ha⟩) ?_ h1 hroom fun w' h2 h3 => h _ w' h2 h3 fun k hk => .inl hk
      intro ad' had j u hu
      have hm : 0 < m := by
        rcases Nat.eq_zero_or_pos m with h0 | h0
        · subst h0
          obtain rfl : news = [] := List.eq_nil_of_length_eq_zero (by simpa using hl)
          simp at hu
        · exact h0
      obtain ⟨b, off, e1, hc⟩ := c4 hm
      rw [had] at e1; cases e1
      rw [Addr.add_lit]; exact hc j u hu
    · have hm : 0 < m := by omega
      obtain ⟨b, off, rfl, hc⟩ := c4 hm
      refine wpList_append_grows w hgd s x t ho e i z size bytes E.und hi hz hsi hby hzs E.pos (some ⟨g, 0, none⟩) n cap xs hs (by simp) hown.1 ?_ _ m capx news hx hl (fun j u hu => by rw [Addr.add_lit]; exact hc j u hu) h1 (by omega) h63 hbytes fun v' w' h2 h3 => ?_
      · intro bb hbb j u hu
        cases hbb
        exact hown.cells (g := g) rfl j u hu
      · refine h v' w' (owns_mono h2 hbase) ⟨h3.os, h3.tape, h3.output, h3.size, fun k hk _ => h3.block k hk (by simp)⟩ fun k hk => .inr (h2.lt k hk).1
end
theorem owns_some {w : World} {base e size n : Nat} {v : Value} {cs : List Value} (h : w.ownsRow base e size v n cs) (hn : 0 < n) : ∃ g cap, v = .slice (some ⟨g, 0, none⟩) n cap ∧ base ≤ g ∧ g < w.heap.size ∧ n ≤ cap ∧ cap ≤ 9223372036854775807 := by
  rcases h.2 with ⟨_, h0⟩ | ⟨g, cap, cur, hv, hb, hg, h1, h2, _⟩
  · omega
  · exact ⟨g, cap, hv, hb, (Array.getElem?_eq_some_iff.1 hg).1, h1, by simpa [maxLen] using h2⟩
theorem owns_set_other {w : World} {base e size n : Nat} {v : Value} {cs : List Value} (h : w.ownsRow base e size v n cs) (p : Addr) (u : Value) (hp : v.ownBlock ≠ some p.block) : (w.setCell p u).ownsRow base e size v n cs :=
  (Fr.setCell (Fr.refl (fun k => k = p.block) w) (.inr rfl) u).owns h fun k hk hf => hp (by rw [hk, hf])
theorem blk_set_other {w : World} {g : Nat} {o : Obj} (h : w.heap[g]? = some o) (p : Addr) (u : Value) (hp : g ≠ p.block) : (w.setCell p u).heap[g]? = some o := by rw [Below.heap_setCell w p u g hp]; exact h
theorem blk_grown {w w' : World} {g : Nat} {o : Obj} {row : Option Nat} (h : w.heap[g]? = some o) (hg : w.grownBy w' row) (hne : row ≠ some g) : w'.heap[g]? = some o := by
  rw [hg.block g (Array.getElem?_eq_some_iff.1 h).1 (fun e => hne e.symm)]; exact h
theorem blk_alloc {w : World} {g : Nat} {o : Obj} (h : w.heap[g]? = some o) (o' : Obj) : (w.alloc o').heap[g]? = some o := by
  rw [Below.heap_alloc w o' g (Array.getElem?_eq_some_iff.1 h).1]; exact h
end Go.Waf
