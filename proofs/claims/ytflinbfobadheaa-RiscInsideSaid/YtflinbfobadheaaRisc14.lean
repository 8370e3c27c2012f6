/- Contracts of what tells of a machine: its registers, words, flags, its result. -/
import Derived.Test.YtflinbfobadheaaRisc5
import Derived.Test.YtflinbfobadheaaMem3
import Derived.Deep.RegionHeld3
import Derived.Deep.QuietTactic
import Derived.BigQuiet
import Derived.WalkSpells
namespace Go.Proofs.Ytflinbfobadheaa
open Go.RowKit Go.Waf
set_option maxRecDepth 100000
set_option linter.unusedVariables false

theorem elemB14 : Elem Try.prog 22 5 1 1 := Elem.mk' (z := .int .u8 0) Try.underlying22 (by kernel_rfl) rfl (by decide)
theorem elemU14 : Elem Try.prog 24 37 1 4 := Elem.mk' (z := .int .u32 0) Try.underlying24 (by kernel_rfl) rfl (by decide)
theorem one_u32s (xs : List Int) : ∀ u ∈ u32s xs, u.oneCell' = true := by
  intro u hu; obtain ⟨n, _, rfl⟩ := List.mem_map.1 hu; rfl
theorem ownRet_mono {B e size n : Nat} {cs : List Value} {P : Program} {f : FuncId} {args : Array Value} {w : World} (h : Calls P f args w (OwnRet B e size n cs w)) (R : Ending → World → Prop) (hR : ∀ v w', w'.ownsRow B e size v n cs → Below B w w' → R (.returned v) w') : Calls P f args w R :=
  h.mono fun _ _ ⟨v, he, h1, h2⟩ => he ▸ hR v _ h1 h2

/-- append onto nil, as one step of a region that draws its order: whatever is appended. -/
theorem step_app_nil {P : Program} {ops : Array Oper} {o : Oper} {a : Act} {w : World} {K : Act → World → Prop} {Q : Exit → Act → World → Prop} {X : Prop} {t e size bytes : Nat} (E : Elem P t e size bytes) (hgd : o.guard = none) (s x : Operand)
    (ho : o.op = .call { callee := .builtin .append, args := #[s, x], argTypes := #[t, t] }) (hs : a.eval s = .slice none 0 0)
    (vx : Value) (m : Nat) (news : List Value) (hx : a.eval x = vx) (hr : Rd w size vx m news) (h1 : ∀ u ∈ news, u.oneCell' = true) (h63 : m ≤ maxLen) (hbytes : m * bytes ≤ 140737488355328)
    (hK : ∀ v' w', w'.ownsRow w.heap.size e size v' m news → Below w.heap.size w w' → K (a.put o.dst v') w') :
    if Region.wanted o (yielded ops a.tmps) = true then Oper.wp P o a w K Q else X := by
  have hw : Region.wanted o (yielded ops a.tmps) = true := by simp [Region.wanted, hgd]
  rw [if_pos hw]
  obtain ⟨i, z, hi, hz, hsi, hb, hzs⟩ := E.info
  obtain ⟨hl, ad, cap, rfl, c1, c2, c3, c4⟩ := hr
  cases ad with
  | none =>
    have : cap = 0 := c3 rfl
    obtain rfl : m = 0 := by omega
    obtain rfl : news = [] := List.eq_nil_of_length_eq_zero (by simpa using hl)
    subst this
    have hrun := run_append_owned_none (P := P) (w := w) w.heap.size t o.type e i size E.und hi (.slice none 0 0) 0 [] (World.ownsRow_nil _ _ _ _)
    unfold Oper.wp
    simp [execOp, ho, resolve, invoke, builtin, hs, hx, hrun, Result.andThen]
    exact hK _ _ (World.ownsRow_nil _ _ _ _) (Below.refl _ _)
  | some ad =>
    refine wp_append_own w s x t ho w.heap.size e i z size bytes E.und hi hz hsi hb hzs E.pos (.slice none 0 0) 0 [] hs (World.ownsRow_nil _ _ _ _) ad m cap news hx hl ?_ h1 (by omega) (by simpa using hbytes) (Nat.le_refl _) fun v' w' h2 h3 _ => hK v' w' (by simpa using h2) (below_of_grown (Below.refl _ _) (Nat.le_refl _) (World.ownsRow_nil w w.heap.size e size) (Nat.le_refl _) rfl h3)
    intro j u hu
    have hn : 0 < m := by
      rcases Nat.eq_zero_or_pos m with h0 | h0
      · subst h0
        obtain rfl : news = [] := List.eq_nil_of_length_eq_zero (by simpa using hl)
        simp at hu
      · exact h0
    obtain ⟨b, off, e1, hc⟩ := c4 hn
    cases e1
    rw [Addr.add_lit]; exact hc j u hu

theorem cloneB_any (w : World) (v : Value) (n : Nat) (xs : List Int) (hr : Rd w 1 v n (byt xs)) (hn : n ≤ 70368744177664) :
    Calls Try.prog 30 #[v] w (OwnRet w.heap.size 5 1 n (byt xs) w) := by
  have hown := (World.ownsRow_made (base := w.heap.size) (e := 5) (size := 1) w #[] 0 (Nat.le_refl _) (by simp [maxLen]) rfl)
  have hr2 := hr.below (Below.alloc (Below.refl w.heap.size w) (Nat.le_refl _) (.cells #[] 5)) (Nat.le_refl _)
  have HR := Lib.hid hr2
  have qn := fun (w : World) (a : Option Addr) (n c n' c' : Nat) => Lib.run_eql_slice_nil (P := Try.prog) w _ _ a n c n' c' Try.underlying22
  clear hr2
  obtain ⟨hl, a, cap, rfl, h1, h2, h3, h4⟩ := hr
  have H4 := Lib.hid h4
  clear h4
  cases a with
  | none =>
    have : cap = 0 := h3 rfl
    obtain rfl : n = 0 := by omega
    obtain rfl : xs = [] := List.eq_nil_of_length_eq_zero (by simpa [byt] using hl)
    subst this
    clear H4 HR hown
    go_enter Try.func30, Try.ntmps30
    go_wp2
    go_ret
    exact ⟨_, rfl, World.ownsRow_nil _ _ _ _, Below.refl _ _⟩
  | some a =>
    clear hl h3
    go_enter Try.func30, Try.ntmps30
    go_wp2_with (at_builtin; refine app_own _ elemB14 rfl _ _ rfl w.heap.size _ 0 [] rfl hown _ n (byt xs) rfl HR.out (one_byt _) (by simp only [maxLen]; omega) (by omega) (by simp) ?_; intro v' w1 hown1 hg1)
    go_ret
    exact ⟨v', rfl, by simpa using hown1, below_of_grown ((Below.refl _ _).alloc (Nat.le_refl _) _) (by simp) hown (Nat.le_refl _) rfl hg1⟩

theorem cloneU_any (w : World) (v : Value) (n : Nat) (xs : List Int) (hr : Rd w 1 v n (u32s xs)) (hn : n ≤ 35184372088832) :
    Calls Try.prog 29 #[v] w (OwnRet w.heap.size 37 1 n (u32s xs) w) := by
  have hown := (World.ownsRow_made (base := w.heap.size) (e := 37) (size := 1) w #[] 0 (Nat.le_refl _) (by simp [maxLen]) rfl)
  have hr2 := hr.below (Below.alloc (Below.refl w.heap.size w) (Nat.le_refl _) (.cells #[] 37)) (Nat.le_refl _)
  have HR := Lib.hid hr2
  have qn := fun (w : World) (a : Option Addr) (n c n' c' : Nat) => Lib.run_eql_slice_nil (P := Try.prog) w _ _ a n c n' c' Try.underlying24
  clear hr2
  obtain ⟨hl, a, cap, rfl, h1, h2, h3, h4⟩ := hr
  have H4 := Lib.hid h4
  clear h4
  cases a with
  | none =>
    have : cap = 0 := h3 rfl
    obtain rfl : n = 0 := by omega
    obtain rfl : xs = [] := List.eq_nil_of_length_eq_zero (by simpa [u32s] using hl)
    subst this
    clear H4 HR hown
    go_enter Try.func29, Try.ntmps29
    go_wp2
    go_ret
    exact ⟨_, rfl, World.ownsRow_nil _ _ _ _, Below.refl _ _⟩
  | some a =>
    clear hl h3
    go_enter Try.func29, Try.ntmps29
    go_wp2_with (at_builtin; refine app_own _ elemU14 rfl _ _ rfl w.heap.size _ 0 [] rfl hown _ n (u32s xs) rfl HR.out (one_u32s _) (by simp only [maxLen]; omega) (by omega) (by simp) ?_; intro v' w1 hown1 hg1)
    go_ret
    exact ⟨v', rfl, by simpa using hown1, below_of_grown ((Below.refl _ _).alloc (Nat.le_refl _) _) (by simp) hown (Nat.le_refl _) rfl hg1⟩

section
variable {w : World} {B q : Nat} {F : Nat → Prop} {cv mv iv ov : Value} {s : St}
theorem preg_any (h : Mach true w B q F cv mv iv ov s) (k : Nat) (hk : k < 16) :
    Calls Try.prog 18 #[.pointer (some ⟨q, 0, none⟩), .int .i64 k] w fun e w' => e = .returned (.tuple #[.int .u32 (s.r.getD k 0), .bool true]) ∧ w = w' := by
  have c := h.p_r k hk
  have k0 : (0 : Int) ≤ (k : Int) := by omega
  have k1 : (k : Int) < 16 := by omega
  clear h
  go_enter Try.func18, Try.ntmps18
  go_wp2_with fail
  go_ret2
  exact ⟨rfl, rfl⟩
theorem preg_none (w : World) (p : Value) :
    Calls Try.prog 18 #[p, .int .i64 16] w fun e w' => e = .returned (.tuple #[.int .u32 0, .bool false]) ∧ w = w' := by
  go_enter Try.func18, Try.ntmps18
  go_wp2_with fail
  go_ret2
  exact ⟨rfl, rfl⟩
theorem ppc_any (h : Mach true w B q F cv mv iv ov s) :
    Calls Try.prog 17 #[.pointer (some ⟨q, 0, none⟩)] w fun e w' => e = .returned (.int .i64 s.pc) ∧ w = w' := by
  have c := h.p_pc
  clear h
  go_enter Try.func17, Try.ntmps17
  go_wp2_with fail
  go_ret
  exact ⟨rfl, rfl⟩
theorem results_tmp4 {fn : Func} {t u v x : Tmp} (h : fn.results = #[.tmp t, .tmp u, .tmp v, .tmp x]) (tmps : Array Value) (P : Program) (w : World) :
    (results fn tmps).run P w = .ok (.tuple #[tmps.getD t undef, tmps.getD u undef, tmps.getD v undef, tmps.getD x undef]) w := by simp [results, h]
theorem pflags_any (h : Mach true w B q F cv mv iv ov s) :
    Calls Try.prog 19 #[.pointer (some ⟨q, 0, none⟩)] w fun e w' => e = .returned (.tuple #[.bool s.n, .bool s.z, .bool s.c, .bool s.v]) ∧ ∃ n, w' = w.drewN n := by
  have c1 := h.p_n
  have c2 := h.p_z
  have c3 := h.p_c
  have c4 := h.p_v
  clear h
  go_enter Try.func19, Try.ntmps19
  go_wp2_with fail
  go_quiet (fail)
  go_wp2_with fail
  refine bodyPost_ret (results_tmp4 rfl _ _ _) rfl ?_
  exact ⟨rfl, _, rfl⟩
theorem pword_any (h : Mach true w B q F cv mv iv ov s) (k : Nat) (hk : k < s.mem.length) :
    Calls Try.prog 23 #[.pointer (some ⟨q, 0, none⟩), .int .i64 k] w fun e w' => e = .returned (.tuple #[.int .u32 (s.mem.getD k 0), .bool true]) ∧ w = w' := by
  have c := h.p_mv
  obtain ⟨g, cap, hv, hg, hlt, hn, hcap⟩ := owns_some h.mem (by omega)
  have cx := h.mem.cells (g := g) (by rw [hv]; rfl) k _ (u32s_get s.mem k hk)
  rw [Addr.add_lit, Nat.zero_add] at cx
  rw [hv] at c
  have hml := h.fit.ml
  obtain ⟨N, hN⟩ : ∃ N, N = s.mem.length := ⟨_, rfl⟩
  obtain ⟨x, hx⟩ : ∃ x, x = s.mem.getD k 0 := ⟨_, rfl⟩
  rw [← hN] at c hk hml hn
  rw [← hx] at cx
  have k0 : (0 : Int) ≤ (k : Int) := by omega
  have k1 : (k : Int) < (N : Int) := by omega
  have HX := Lib.hid hx
  clear h hv hN hx
  go_enter Try.func23, Try.ntmps23
  go_wp2_with fail
  go_ret2
  exact ⟨by rw [← HX.out]; rfl, rfl⟩
theorem pword_none (h : Mach true w B q F cv mv iv ov s) :
    Calls Try.prog 23 #[.pointer (some ⟨q, 0, none⟩), .int .i64 (s.mem.length : Int)] w fun e w' => e = .returned (.tuple #[.int .u32 0, .bool false]) ∧ w = w' := by
  have c := h.p_mv
  obtain ⟨a, cap, rfl, hn, hcap, _⟩ := owns_shape h.mem
  have hml := h.fit.ml
  obtain ⟨N, hN⟩ : ∃ N, N = s.mem.length := ⟨_, rfl⟩
  rw [← hN] at c hml
  rw [← hN]
  clear h hN
  go_enter Try.func23, Try.ntmps23
  go_wp2_with fail
  go_ret2
  exact ⟨rfl, rfl⟩

def ResRet (w : World) (s : St) (e : Ending) (w' : World) : Prop :=
  ∃ v, e = .returned (.agg #[v, .int .i64 s.fin, .int .i64 s.trap]) ∧ w'.ownsRow w.heap.size 5 1 v s.out.length (byt s.out) ∧ Below w.heap.size w w'
theorem res_cells {W w3 : World} {b : Nat} {T : TypeId} (hb : Below W.heap.size W w3) (h : W.heap[b]? = some (.cells #[.slice none 0 0, .int .i64 0, .int .i64 0] T (0, 0))) : w3.cell? ⟨b, 0, none⟩ = some (.slice none 0 0) ∧ w3.cell? ⟨b, 1, none⟩ = some (.int .i64 0) ∧ w3.cell? ⟨b, 2, none⟩ = some (.int .i64 0) ∧ ∀ j, w3.frozen? ⟨b, j, none⟩ = false := by
  have h2 : w3.heap[b]? = some (.cells #[.slice none 0 0, .int .i64 0, .int .i64 0] T (0, 0)) := by rw [hb.block b (Array.getElem?_eq_some_iff.1 h).1]; exact h
  refine ⟨?_, ?_, ?_, fun j => frozen_of_row w3 b j _ _ h2⟩
  all_goals (rw [cell_of_row w3 b _ _ _ _ h2]; rfl)
theorem below_drewN' {B : Nat} {a w : World} (h : Below B a w) (n : Nat) : Below B a (w.drewN n) := ⟨h.os, h.tape, h.output, h.size, h.block⟩
theorem below_alloc_drewN' {w w1 : World} {o : Obj} (h : Below (w.alloc o).drew.heap.size (w.alloc o).drew w1) : Below (w.alloc o).heap.size (w.alloc o) w1 := ⟨h.os, h.tape, h.output, h.size, h.block⟩
theorem res_ret {w w1 : World} {s : St} {v : Value} {o : Obj} (ho : w1.ownsRow (w.alloc o).heap.size 5 1 v s.out.length (byt s.out)) (hb : Below (w.alloc o).heap.size (w.alloc o) w1) (v0 v1 v2 : Value) :
    (((w1.setCell ⟨w.heap.size, 0, none⟩ v0).setCell ⟨w.heap.size, 1, none⟩ v1).setCell ⟨w.heap.size, 2, none⟩ v2).ownsRow w.heap.size 5 1 v s.out.length (byt s.out) ∧ Below w.heap.size w (((w1.setCell ⟨w.heap.size, 0, none⟩ v0).setCell ⟨w.heap.size, 1, none⟩ v1).setCell ⟨w.heap.size, 2, none⟩ v2) := by
  have hsz : (w.alloc o).heap.size = w.heap.size + 1 := by simp
  rw [hsz] at ho hb
  refine ⟨?_, ((((((Below.refl w.heap.size w).alloc (Nat.le_refl _) o).trans (hb.mono (by omega))).setCell (Nat.le_refl _) _).setCell (Nat.le_refl _) _).setCell (Nat.le_refl _) _)⟩
  have hne : ∀ k, v.ownBlock = some k → k ≠ w.heap.size := fun k hk => by have := (ho.lt k hk).1; omega
  exact owns_mono (owns_set_other (owns_set_other (owns_set_other ho _ _ (fun e => hne _ e rfl)) _ _ (fun e => hne _ e rfl)) _ _ (fun e => hne _ e rfl)) (by omega)
theorem below_alloc_drew (w : World) (o : Obj) : Below w.heap.size w (w.alloc o).drew := ((Below.refl _ _).alloc (Nat.le_refl _) _).drew
theorem late_cell {w w1 : World} {o : Obj} {p : Addr} {v : Value} (h : w.cell? p = some v) (hb : Below (w.alloc o).drew.heap.size (w.alloc o).drew w1) : w1.cell? p = some v := by
  have hp := World.block_lt_of_cell? w p h
  have h2 : (w.alloc o).drew.cell? p = some v := (World.cell?_alloc_lt w o p hp).trans h
  exact (hb.cell (World.block_lt_of_cell? _ p h2)).trans h2
theorem far3 {W : World} {b q j : Nat} (hne : q < b) (x y z : Value) : (((W.setCell ⟨b, 0, none⟩ x).setCell ⟨b, 1, none⟩ y).setCell ⟨b, 2, none⟩ z).cell? ⟨q, j, none⟩ = W.cell? ⟨q, j, none⟩ := by
  rw [World.cell?_setCell_other _ _ _ _ (by intro h; injection h with h; omega), World.cell?_setCell_other _ _ _ _ (by intro h; injection h with h; omega), World.cell?_setCell_other _ _ _ _ (by intro h; injection h with h; omega)]
theorem set3 {W : World} {b : Nat} {u0 u1 u2 : Value} (h0 : W.cell? ⟨b, 0, none⟩ = some u0) (h1 : W.cell? ⟨b, 1, none⟩ = some u1) (h2 : W.cell? ⟨b, 2, none⟩ = some u2) (x y z : Value) :
    (W.setCell ⟨b, 0, none⟩ x).cell? ⟨b, 0, none⟩ = some x ∧ ((W.setCell ⟨b, 0, none⟩ x).setCell ⟨b, 1, none⟩ y).cell? ⟨b, 1, none⟩ = some y ∧ (((W.setCell ⟨b, 0, none⟩ x).setCell ⟨b, 1, none⟩ y).setCell ⟨b, 2, none⟩ z).cell? ⟨b, 2, none⟩ = some z := by
  refine ⟨World.cell?_setCell_same _ _ _ h0, World.cell?_setCell_same _ _ _ (u := u1) ?_, World.cell?_setCell_same _ _ _ (u := u2) ?_⟩
  · rw [World.cell?_setCell_other _ _ _ _ (by intro h; injection h with _ h; omega)]; exact h1
  · rw [World.cell?_setCell_other _ _ _ _ (by intro h; injection h with _ h; omega), World.cell?_setCell_other _ _ _ _ (by intro h; injection h with _ h; omega)]; exact h2
set_option maxHeartbeats 1600000 in
theorem presult_any (h : Mach true w B q F cv mv iv ov s) (hol : s.out.length ≤ 2000000) :
    Calls Try.prog 21 #[.pointer (some ⟨q, 0, none⟩)] w (ResRet w s) := by
  have c1 := h.p_ov
  have c2 := h.p_fin
  have c3 := h.p_trap
  have rd := rd_of_owns h.out
  have hql : q < w.heap.size := (h.fb q h.fq).2
  have RD := Lib.hid rd
  clear rd h
  go_enter Try.func21, Try.ntmps21
  go_wp2_with fail
  go_region_held3 (fun W => W.cell? ⟨q, 25, none⟩ = some ov ∧ W.cell? ⟨q, 26, none⟩ = some (.int .i64 s.fin) ∧ W.cell? ⟨q, 27, none⟩ = some (.int .i64 s.trap)) (first | exact ⟨d1, d2, d3⟩ | exact ⟨(far3 hql _ _ _).trans d1, (far3 hql _ _ _).trans d2, (far3 hql _ _ _).trans d3⟩ | go_keep) ((go_at_call 30; refine ownRet_mono (cloneB_any _ ov _ _ (RD.out.below (below_alloc_drew w _) (Nat.le_refl _)) (by omega)) _ ?_; intro v w1 ho b1; obtain ⟨va, vc, rfl, _, _, _⟩ := owns_shape ho; obtain ⟨z0, z1, z2, zf⟩ := res_cells (b := w.heap.size) (T := 30) b1 (heap_alloc_new _ _); have d1 := late_cell c1 b1; have d2 := late_cell c2 b1; have d3 := late_cell c3 b1))
  go_wp2_with fail
  obtain ⟨r1, r2⟩ := res_ret ho (below_alloc_drewN' b1) (.slice va s.out.length vc) (.int .i64 s.fin) (.int .i64 s.trap)
  obtain ⟨g0, g1, g2⟩ := set3 z0 z1 z2 (.slice va s.out.length vc) (.int .i64 s.fin) (.int .i64 s.trap)
  exact bodyPost_ret (v := .agg #[.slice va s.out.length vc, .int .i64 s.fin, .int .i64 s.trap]) (by simp [results, Try.results21, go_sem, g0, g1, g2]) rfl ⟨_, rfl, r1, r2⟩
set_option maxHeartbeats 1600000 in
theorem rresult_any (h : Mach false w B q F cv mv iv ov s) (hol : s.out.length ≤ 2000000) :
    Calls Try.prog 44 #[.pointer (some ⟨q, 0, none⟩)] w (ResRet w s) := by
  have c1 := h.r_ov
  have c2 := h.r_fin
  have c3 := h.r_trap
  have rd := rd_of_owns h.out
  have hql : q < w.heap.size := (h.fb q h.fq).2
  have RD := Lib.hid rd
  clear rd h
  go_enter Try.func44, Try.ntmps44
  go_wp2_with fail
  go_region_held3 (fun W => W.cell? ⟨q, 25, none⟩ = some ov ∧ W.cell? ⟨q, 26, none⟩ = some (.int .i64 s.fin) ∧ W.cell? ⟨q, 27, none⟩ = some (.int .i64 s.trap)) (first | exact ⟨d1, d2, d3⟩ | exact ⟨(far3 hql _ _ _).trans d1, (far3 hql _ _ _).trans d2, (far3 hql _ _ _).trans d3⟩ | go_keep) ((refine step_app_nil elemB14 (by rfl) _ _ (by rfl) (by rfl) ov _ _ (by rfl) (RD.out.below (below_alloc_drew w _) (Nat.le_refl _)) (one_byt _) (by simp only [maxLen]; omega) (by omega) ?_; intro v w1 ho b1; obtain ⟨va, vc, rfl, _, _, _⟩ := owns_shape ho; obtain ⟨z0, z1, z2, zf⟩ := res_cells (b := w.heap.size) (T := 30) b1 (heap_alloc_new _ _); have d1 := late_cell c1 b1; have d2 := late_cell c2 b1; have d3 := late_cell c3 b1))
  go_wp2_with fail
  obtain ⟨r1, r2⟩ := res_ret ho (below_alloc_drewN' b1) (.slice va s.out.length vc) (.int .i64 s.fin) (.int .i64 s.trap)
  obtain ⟨g0, g1, g2⟩ := set3 z0 z1 z2 (.slice va s.out.length vc) (.int .i64 s.fin) (.int .i64 s.trap)
  exact bodyPost_ret (v := .agg #[.slice va s.out.length vc, .int .i64 s.fin, .int .i64 s.trap]) (by simp [results, Try.results44, go_sem, g0, g1, g2]) rfl ⟨_, rfl, r1, r2⟩
end
end Go.Proofs.Ytflinbfobadheaa
