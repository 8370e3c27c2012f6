/- The walks and the plain lemmas of the statement, joined: part 1. No condition. -/
import Derived.Deep.RegionLaw
import Derived.BigRegion
import Derived.Deep.RegionLawGrows
import Derived.Laws.CopyOwn
import Derived.Lib.SliceRun
import Derived.StillTailTactics
import Derived.Deep.RegionHeld3
import Derived.Laws.Pointers
import Derived.Test.YtgkdphnhfjjepaaJStk420

/- The program's lead: halt, raise, jump, zero. -/
namespace Go.Proofs.Ytgkdphnhfjjepaa
open Go.RowKit Go.Waf
set_option maxRecDepth 100000
set_option linter.unusedVariables false

/-- A state that was come to. -/
def FuP (w : World) (B q : Nat) (F : Nat → Prop) (cv mv iv : Value) (s' : SSt) (w' : World) : Prop :=
  ∃ F' iv' sv' kv' ov', SM true w' B q F' cv mv iv' sv' kv' ov' s' ∧ iv'.ownBlock = iv.ownBlock ∧ Mv w F F' w'
section
variable {w : World} {B q : Nat} {F : Nat → Prop} {cv mv iv sv kv ov : Value} {s : SSt}
theorem FuP.of {w1 : World} {F1 : Nat → Prop} {iv1 sv1 kv1 ov1 : Value} {s1 : SSt} (h : SM true w1 B q F1 cv mv iv1 sv1 kv1 ov1 s1) (hm : Mv w F F1 w1) (hi : iv1.ownBlock = iv.ownBlock := by rfl) : FuP w B q F cv mv iv s1 w1 := ⟨F1, iv1, sv1, kv1, ov1, h, hi, hm⟩
theorem FuP.drewN {w1 : World} {s1 : SSt} (h : FuP w B q F cv mv iv s1 w1) (n : Nat) : FuP w B q F cv mv iv s1 (w1.drewN n) := by
  obtain ⟨F', a, b, c, d, h1, h2, h3⟩ := h; exact ⟨F', a, b, c, d, h1.drewN n, h2, h3.drewN n⟩
theorem PnP.drewN {w1 : World} {s1 : SSt} (h : PnP w B q F cv mv kv ov s1 w1) (n : Nat) : PnP w B q F cv mv kv ov s1 (w1.drewN n) := by
  obtain ⟨F', a, b, c, h1, h2, h3⟩ := h; exact ⟨F', a, b, c, h1.drewN n, h2, h3.drewN n⟩
theorem SM.putPc (h : SM true w B q F cv mv iv sv kv ov s) (x : Int) (h1 : -2147483648 ≤ x) (h2 : x ≤ 2147483648) : SM true (w.setCell ⟨q, 7, none⟩ (.int .i64 x)) B q F cv mv iv sv kv ov { s with pc := x } := h.put 7 _ _ (h.fit.pcs h1 h2) rfl rfl rfl rfl rfl rfl rfl
theorem SM.putFin (h : SM true w B q F cv mv iv sv kv ov s) (x : Int) : SM true (w.setCell ⟨q, 9, none⟩ (.int .i64 x)) B q F cv mv iv sv kv ov { s with fin := x } := h.put 9 _ _ (h.fit.ends x s.trap) rfl rfl rfl rfl rfl rfl rfl
theorem SM.putTrap (h : SM true w B q F cv mv iv sv kv ov s) (x : Int) : SM true (w.setCell ⟨q, 10, none⟩ (.int .i64 x)) B q F cv mv iv sv kv ov { s with trap := x } := h.put 10 _ _ (h.fit.ends s.fin x) rfl rfl rfl rfl rfl rfl rfl
theorem SM.putFp (h : SM true w B q F cv mv iv sv kv ov s) (x : Int) (h1 : 0 ≤ x) (h2 : x ≤ s.mem.length) : SM true (w.setCell ⟨q, 4, none⟩ (.int .i64 x)) B q F cv mv iv sv kv ov { s with fp := x } := h.put 4 _ _ (h.fit.frame h1 h2 h.fit.t0 h.fit.t1) rfl rfl rfl rfl rfl rfl rfl
theorem SM.putTop (h : SM true w B q F cv mv iv sv kv ov s) (x : Int) (h1 : 0 ≤ x) (h2 : x ≤ s.mem.length) : SM true (w.setCell ⟨q, 5, none⟩ (.int .i64 x)) B q F cv mv iv sv kv ov { s with top := x } := h.put 5 _ _ (h.fit.frame h.fit.f0 h.fit.f1 h1 h2) rfl rfl rfl rfl rfl rfl rfl
theorem Mv.set {w1 : World} {F1 : Nat → Prop} (h : Mv w F F1 w1) (hq : F1 q) (j : Nat) (u : Value) : Mv w F F1 (w1.setCell ⟨q, j, none⟩ u) := h.trans ⟨(Fr.refl F1 w1).setCell (p := ⟨q, j, none⟩) (.inr hq) u, fun _ h => .inl h⟩
def codeV (op k : Int) : Value := .agg #[.int .i64 op, .int .i32 k]
def codeBox (op k : Int) : Obj := .cells #[.int .i64 op, .int .i32 k] 25

set_option maxHeartbeats 1600000 in
theorem lead_0 (h : SM true w B q F cv mv iv sv kv ov s) (k : Int) (hp : 0 ≤ s.pc) :
    Calls Try.prog 52 #[.pointer (some ⟨q, 0, none⟩), codeV 0 k] w fun e w' => e = .returned (.tuple #[]) ∧ FuP w B q F cv mv iv { s with fin := 1, pc := s.pc - 1 } w' := by
  have hql := h.lt
  have c7 := h.p7
  have c9 := h.p9
  have f7 := h.frozen 7
  have f9 := h.frozen 9
  have p1 := h.fit.p1
  have HR := Lib.hid (FuP.of (((h.putFin 1).putPc (s.pc - 1) (by show _ ≤ s.pc - 1; omega) (by show s.pc - 1 ≤ _; omega)).alloc (codeBox 0 k)) ((((Mv.refl w F).set h.fq 9 (.int .i64 1)).set h.fq 7 (.int .i64 (s.pc - 1))).alloc (codeBox 0 k)))
  simp only [codeV]
  clear h
  go_enter Try.func52, Try.ntmps52
  go_wp2_with fail
  go_end0
  exact ⟨rfl, HR.out⟩
set_option maxHeartbeats 1600000 in
theorem lead_30 (h : SM true w B q F cv mv iv sv kv ov s) (k : Int) (hp : 0 ≤ s.pc) (h1 : 1 ≤ k) (h15 : k ≤ 15) :
    Calls Try.prog 52 #[.pointer (some ⟨q, 0, none⟩), codeV 30 k] w fun e w' => e = .returned (.tuple #[]) ∧ FuP w B q F cv mv iv { s with fin := 2, trap := k, pc := s.pc - 1 } w' := by
  have hql := h.lt
  have c7 := h.p7
  have c9 := h.p9
  have c10 := h.p10
  have f7 := h.frozen 7
  have f9 := h.frozen 9
  have f10 := h.frozen 10
  have p1 := h.fit.p1
  have HR := Lib.hid (FuP.of ((((h.putFin 2).putTrap k).putPc (s.pc - 1) (by show _ ≤ s.pc - 1; omega) (by show s.pc - 1 ≤ _; omega)).alloc (codeBox 30 k)) (((((Mv.refl w F).set h.fq 9 (.int .i64 2)).set h.fq 10 (.int .i64 k)).set h.fq 7 (.int .i64 (s.pc - 1))).alloc (codeBox 30 k)))
  simp only [codeV]
  clear h
  go_enter Try.func52, Try.ntmps52
  go_wp2_with fail
  refine (must_ok _).mono ?_; rintro e w2 ⟨rfl, rfl⟩
  go_wp2_with fail
  go_end0
  exact ⟨rfl, HR.out⟩
set_option maxHeartbeats 1600000 in
theorem lead_30no (h : SM true w B q F cv mv iv sv kv ov s) (k : Int) (hk : ¬ (1 ≤ k ∧ k ≤ 15)) (hk0 : I32 k) :
    Calls Try.prog 52 #[.pointer (some ⟨q, 0, none⟩), codeV 30 k] w fun e w' => e = .panicked faultP ∧ PnP w B q F cv mv kv ov s w' := by
  unfold I32 at hk0
  have HR := Lib.hid (PnP.of (h.alloc (codeBox 30 k)) ((Mv.refl w F).alloc (codeBox 30 k)) rfl rfl rfl rfl)
  simp only [codeV]
  clear h
  by_cases h1 : 1 ≤ k
  · have h2 : ¬ k ≤ 15 := by omega
    clear hk
    go_enter Try.func52, Try.ntmps52
    go_wp2_with fail
    refine (must_no _).mono ?_; rintro e w2 ⟨rfl, rfl⟩
    exact ⟨rfl, rfl, HR.out⟩
  · clear hk
    go_enter Try.func52, Try.ntmps52
    go_wp2_with fail
    refine (must_no _).mono ?_; rintro e w2 ⟨rfl, rfl⟩
    exact ⟨rfl, rfl, HR.out⟩
set_option maxHeartbeats 1600000 in
theorem lead_25 (h : SM true w B q F cv mv iv sv kv ov s) (k : Int) (hk0 : I32 k) :
    Calls Try.prog 52 #[.pointer (some ⟨q, 0, none⟩), codeV 25 k] w fun e w' => e = .returned (.tuple #[]) ∧ FuP w B q F cv mv iv { s with pc := k } w' := by
  unfold I32 at hk0
  obtain ⟨k0, k1⟩ := hk0
  have hql := h.lt
  have c7 := h.p7
  have f7 := h.frozen 7
  have HR := Lib.hid (FuP.of ((h.putPc k (by omega) (by omega)).alloc (codeBox 25 k)) (((Mv.refl w F).set h.fq 7 (.int .i64 k)).alloc (codeBox 25 k)))
  simp only [codeV]
  clear h
  go_enter Try.func52, Try.ntmps52
  go_wp2_with fail
  go_end0
  exact ⟨rfl, HR.out⟩
set_option maxHeartbeats 1600000 in
theorem lead_26no (h : SM true w B q F cv mv iv sv kv ov s) (k : Int) (hk0 : I32 k) (hst : s.st = []) :
    Calls Try.prog 52 #[.pointer (some ⟨q, 0, none⟩), codeV 26 k] w fun e w' => e = .panicked faultP ∧ PnP w B q F cv mv kv ov s w' := by
  unfold I32 at hk0
  obtain ⟨k0, k1⟩ := hk0
  have P1 := Lib.hid (pop_mno (h.alloc (codeBox 26 k)) hst)
  have HR := Lib.hid (PnP.of (h.alloc (codeBox 26 k)) ((Mv.refl w F).alloc (codeBox 26 k)) rfl rfl rfl rfl)
  simp only [codeV]
  clear h hst
  go_enter Try.func52, Try.ntmps52
  go_wp2_with fail
  refine P1.out.mono ?_; rintro e w2 ⟨rfl, rfl⟩
  exact ⟨rfl, rfl, HR.out⟩
set_option maxHeartbeats 1600000 in
theorem lead_26 (h : SM true w B q F cv mv iv sv kv ov s) (k : Int) (hk0 : I32 k) {x : Int} {t : List Int} (hst : s.st = x :: t) :
    Calls Try.prog 52 #[.pointer (some ⟨q, 0, none⟩), codeV 26 k] w fun e w' => e = .returned (.tuple #[]) ∧ FuP w B q F cv mv iv { s with st := t, pc := if x = 0 then k else s.pc } w' := by
  unfold I32 at hk0
  obtain ⟨k0, k1⟩ := hk0
  have P1 := Lib.hid (pop_m (h.alloc (codeBox 26 k)) hst)
  have M0 := Lib.hid ((Mv.refl w F).alloc (codeBox 26 k))
  simp only [codeV]
  clear h hst
  by_cases hx : x = 0
  · subst hx
    rw [if_pos rfl]
    go_enter Try.func52, Try.ntmps52
    go_wp2_with fail
    refine P1.out.mono ?_; rintro e w1 ⟨rfl, F1, sv1, h1, m1⟩
    have c7 := h1.p7
    have f7 := h1.frozen 7
    have HR := Lib.hid (FuP.of (iv := iv) (h1.putPc k (by omega) (by omega)) ((M0.out.trans m1).set h1.fq 7 (.int .i64 k)))
    clear h1 m1
    go_wp2_with fail
    go_end0
    exact ⟨rfl, HR.out⟩
  · rw [if_neg hx]
    have t1 : (x == 0) = false := by simp [hx]
    clear hx
    go_enter Try.func52, Try.ntmps52
    go_wp2_with fail
    refine P1.out.mono ?_; rintro e w1 ⟨rfl, F1, sv1, h1, m1⟩
    have HR := Lib.hid (FuP.of (iv := iv) h1 (M0.out.trans m1))
    clear h1 m1
    go_wp2_with fail
    go_end0
    exact ⟨rfl, HR.out⟩
end
end Go.Proofs.Ytgkdphnhfjjepaa

/- The program's lead: calls, and back. -/
namespace Go.Proofs.Ytgkdphnhfjjepaa
open Go.RowKit Go.Waf
set_option maxRecDepth 100000
set_option linter.unusedVariables false

theorem elemKept : Elem Try.prog 62 100 2 16 := Elem.mk' (z := .agg #[.int .i64 0, .int .i64 0]) Try.underlying62 (by kernel_rfl) rfl (by decide)
theorem elemB : Elem Try.prog 29 5 1 1 := Elem.mk' (z := .int .u8 0) Try.underlying29 (by kernel_rfl) rfl (by decide)
/-- append onto a slice of the call's own, as one step of a region that draws its order: where its row lies. -/
theorem step_app_own2 {P : Program} {ops : Array Oper} {o : Oper} {a : Act} {w : World} {K : Act → World → Prop} {Q : Exit → Act → World → Prop} {X : Prop} {t e size bytes : Nat} (E : Elem P t e size bytes) (hgd : o.guard = none) (s x : Operand)
    (ho : o.op = .call { callee := .builtin .append, args := #[s, x], argTypes := #[t, t] }) (base : Nat) (v : Value) (n : Nat) (xs : List Value) (hs : a.eval s = v) (hown : w.ownsRow base e size v n xs)
    (b off m c : Nat) (news : List Value) (hx : a.eval x = .slice (some ⟨b, off, none⟩) m c) (hl : news.length = m * size) (hcn : ∀ j u, news[j]? = some u → w.cell? ⟨b, off + j, none⟩ = some u) (h1 : ∀ u ∈ news, u.oneCell' = true) (hm : 0 < m) (h63 : n + m ≤ maxLen) (hbytes : (n + m) * bytes ≤ 140737488355328) (hbase : base ≤ w.heap.size)
    (hK : ∀ v' w', w'.ownsRow base e size v' (n + m) (xs ++ news) → w.grownBy w' v.ownBlock → (∀ k, v'.ownBlock = some k → v.ownBlock = some k ∨ w.heap.size ≤ k) → K (a.put o.dst v') w') :
    if Region.wanted o (yielded ops a.tmps) = true then Oper.wp P o a w K Q else X := by
  have hw : Region.wanted o (yielded ops a.tmps) = true := by simp [Region.wanted, hgd]
  obtain ⟨i, z, hi, hz, hsi, hb, hzs⟩ := E.info
  rcases hown.2 with ⟨rfl, rfl⟩ | ⟨g, cap, cur, rfl, hbg, hg, hnc, hcm, hcs, ht⟩
  · rw [if_pos hw]
    have hxs : xs = [] := List.eq_nil_of_length_eq_zero (by simpa using hown.1)
    subst hxs
    refine wp_append_own w s x t ho w.heap.size e i z size bytes E.und hi hz hsi hb hzs E.pos (.slice none 0 0) 0 [] hs (World.ownsRow_nil _ _ _ _) ⟨b, off, none⟩ m c news hx hl (fun j u hu => by rw [Addr.add_lit]; exact hcn j u hu) h1 h63 hbytes (Nat.le_refl _) (fun v' w' h2 h3 _ => hK v' w' (owns_mono h2 hbase) h3 fun k hk => .inr (h2.lt k hk).1)
  · by_cases hroom : n + m ≤ cap
    · rw [if_pos hw]
      obtain ⟨w', hrun, r1, r2⟩ := run_append_fits (P := P) w base t o.type e i size E.und hi hsi g n cap xs hown ⟨b, off, none⟩ m c news hl (fun j u hu => by rw [Addr.add_lit]; exact hcn j u hu) h1 hroom
      unfold Oper.wp
      simp [execOp, ho, resolve, invoke, builtin, hs, hx, hrun, Result.andThen]
      exact hK _ _ r1 r2 fun k hk => .inl hk
    · refine step_append_grows hgd s x t ho e i z size bytes E.und hi hz hsi hb hzs E.pos (some ⟨g, 0, none⟩) n cap xs hs (by simp) hown.1 ?_ ⟨b, off, none⟩ m c news hx hl (fun j u hu => by rw [Addr.add_lit]; exact hcn j u hu) h1 (by omega) h63 hbytes (fun v' w' h2 h3 => hK v' w' (owns_mono h2 hbase) ⟨h3.os, h3.tape, h3.output, h3.size, fun k hk _ => h3.block k hk (by simp)⟩ fun k hk => .inr (h2.lt k hk).1)
      intro bb hbb j u hu
      cases hbb
      exact hown.cells (g := g) rfl j u hu
theorem new_cells (w : World) (cs : List Value) (T : TypeId) : ∀ j u, cs[j]? = some u → (w.alloc (.cells cs.toArray T)).cell? ⟨w.heap.size, 0 + j, none⟩ = some u := fun j u hu => by
  rw [World.cell?_alloc_new]; simpa using hu
theorem one_kept (l : List (Int × Int)) : ∀ u ∈ keptCells l, u.oneCell' = true := by
  intro u hu
  obtain ⟨c, _, hc⟩ := List.mem_flatMap.1 hu
  rcases List.mem_cons.1 hc with rfl | hc
  · rfl
  · rcases List.mem_cons.1 hc with rfl | hc
    · rfl
    · cases hc
section
variable {w : World} {B q : Nat} {F : Nat → Prop} {cv mv iv sv kv ov : Value} {s : SSt}
theorem SM.later {p : Bool} {w2 : World} {row : Option Nat} (h : SM p w B q F cv mv iv sv kv ov s) (hg : w.grownBy w2 row) (hq : row ≠ some q) (j : Nat) : w2.cell? ⟨q, j, none⟩ = (cellsS p s cv mv iv sv kv ov)[j]? ∧ w2.frozen? ⟨q, j, none⟩ = false := by
  have hb : w2.heap[q]? = w.heap[q]? := hg.block q h.lt (fun e => hq e.symm)
  exact ⟨(World.cell?_of_block (a := ⟨q, j, none⟩) hb).trans (h.cell j), (World.frozen?_of_block (a := ⟨q, j, none⟩) hb).trans (h.frozen j)⟩
theorem SM.nk {p : Bool} (h : SM p w B q F cv mv iv sv kv ov s) : kv.ownBlock ≠ some q := fun e => (h.fk q e).2 rfl
theorem SM.no {p : Bool} (h : SM p w B q F cv mv iv sv kv ov s) : ov.ownBlock ≠ some q := fun e => (h.fo q e).2 rfl
theorem lead_27no (h : SM true w B q F cv mv iv sv kv ov s) (k : Int) (hl : ¬ s.kept.length < 1000) :
    Calls Try.prog 52 #[.pointer (some ⟨q, 0, none⟩), codeV 27 k] w fun e w' => e = .panicked faultP ∧ PnP w B q F cv mv kv ov s w' := by
  obtain ⟨a, c, rfl, _⟩ := rd_shape h.kept.rd
  have HR := Lib.hid (PnP.of (h.alloc (codeBox 27 k)) ((Mv.refl w F).alloc (codeBox 27 k)) rfl rfl rfl rfl)
  have hql := h.lt
  have c6 := h.p6
  have hl' : ¬ (s.kept.length : Int) < 1000 := by omega
  generalize s.kept.length = N at c6 hl hl' HR
  simp only [codeV]
  clear h hl
  go_enter Try.func52, Try.ntmps52
  go_wp2_with fail
  refine (must_no _).mono ?_; rintro e w2 ⟨rfl, rfl⟩
  exact ⟨rfl, rfl, HR.out⟩
set_option maxHeartbeats 3200000 in
theorem lead_27 (h : SM true w B q F cv mv iv sv kv ov s) (k : Int) (hk0 : I32 k) (hl : s.kept.length < 1000) :
    Calls Try.prog 52 #[.pointer (some ⟨q, 0, none⟩), codeV 27 k] w fun e w' => e = .returned (.tuple #[]) ∧ FuP w B q F cv mv iv { s with kept := (s.pc, s.fp) :: s.kept, pc := k } w' := by
  obtain ⟨a, c, rfl, _⟩ := rd_shape h.kept.rd
  unfold I32 at hk0
  obtain ⟨k0, k1⟩ := hk0
  have H := Lib.hid h
  have hql := h.lt
  have c6 := h.p6
  have hl' : (s.kept.length : Int) < 1000 := by omega
  obtain ⟨N, hN⟩ : ∃ N, N = s.kept.length := ⟨_, rfl⟩
  rw [← hN] at c6 hl hl'
  have HN := Lib.hid hN
  simp only [codeV]
  clear h hN
  go_enter Try.func52, Try.ntmps52
  go_wp2_with fail
  refine (must_ok _).mono ?_; rintro e w1 ⟨rfl, hw1⟩
  have hM1 : SM true w1 B q F cv mv iv sv (.slice a N c) ov s := by rw [hw1, HN.out]; exact H.out.alloc _
  have hm1 : Mv w F F w1 := by rw [hw1]; exact (Mv.refl w F).alloc _
  clear hw1 c6
  have hql1 := hM1.lt
  have d6 := hM1.p6
  have g6 := hM1.frozen 6
  have d7 := hM1.p7
  have g7 := hM1.frozen 7
  have d4 := hM1.p4
  have HK := Lib.hid (show (w1.drew.alloc (.cells (keptCells [(s.pc, s.fp)]).toArray 100)).ownsRow B 100 2 (.slice a N c) N (keptCells s.kept.reverse) from by rw [HN.out]; exact (show w1.drew.ownsRow B 100 2 _ s.kept.length (keptCells s.kept.reverse) from by rw [← HN.out]; have := hM1.kept; rw [← HN.out] at this; exact this).alloc _)
  have HMA := Lib.hid (hM1.drew.alloc (.cells (keptCells [(s.pc, s.fp)]).toArray 100))
  have hB1 := HMA.out.Bq
  have HM1 := Lib.hid hM1
  have Hm1 := Lib.hid hm1
  have HB1 := Lib.hid hB1
  clear hM1 hm1 hB1
  go_wp2_with fail
  go_region_law (refine step_app_own2 elemKept rfl (.tmp 74) (.tmp 84) rfl B (.slice a N c) N (keptCells s.kept.reverse) (by simp [Act.eval]) HK.out w1.heap.size 0 1 1 (keptCells [(s.pc, s.fp)]) (by simp [Act.eval]) rfl (new_cells w1.drew (keptCells [(s.pc, s.fp)]) 100) (one_kept _) (by omega) (by simp only [maxLen]; omega) (by omega) HB1.out ?_; intro v2 w2 ho2 hg2 hloc; obtain ⟨g2, cap2, rfl, _, _, _, _⟩ := owns_some ho2 (by omega); obtain ⟨e6, j6⟩ := HMA.out.later hg2 HMA.out.nk 6; obtain ⟨e7, j7⟩ := HMA.out.later hg2 HMA.out.nk 7; have i6 : w2.cell? ⟨q, 6, none⟩ = some (.slice a N c) := e6; have i7 : w2.cell? ⟨q, 7, none⟩ = some (.int .i64 s.pc) := e7; clear e6 e7)
  all_goals
    have hnew : newer (w1.drew.alloc (.cells (keptCells [(s.pc, s.fp)]).toArray 100)) w2 (.slice a N c) (.slice (some ⟨g2, 0, none⟩) (N + 1) cap2) := fun k hk => (hloc k hk).imp id fun h1 => ⟨h1, (ho2.lt k hk).2⟩
    have hfr : Fr (fun k => (Value.slice a N c).ownBlock = some k) (w1.drew.alloc (.cells (keptCells [(s.pc, s.fp)]).toArray 100)) w2 := Fr.of_grown hg2 (fun _ h => h)
    have hrow : w2.ownsRow B 100 2 (.slice (some ⟨g2, 0, none⟩) (N + 1) cap2) ((s.pc, s.fp) :: s.kept).length (keptCells ((s.pc, s.fp) :: s.kept).reverse) := by
      rw [List.reverse_cons, keptCells_append, List.length_cons, ← HN.out]; exact ho2
    have hfit : SFit { s with kept := (s.pc, s.fp) :: s.kept } := H.out.fit.keeps (by rw [List.length_cons, ← HN.out]; omega) (fun x hx => by
      rcases List.mem_cons.1 hx with rfl | hx
      · exact ⟨H.out.fit.f0, H.out.fit.f1, H.out.fit.p0, H.out.fit.p1⟩
      · exact H.out.fit.kf x hx)
    have hnk := HMA.out.newK hfr hrow hnew hfit
    have hmv := (((Hm1.out.drewN 1).alloc (.cells (keptCells [(s.pc, s.fp)]).toArray 100)).trans (fr_also (B := B) (j := 6) hfr (fun k hk => (HMA.out.fk k hk).1) HMA.out.fq hnew))
    have HR := Lib.hid (FuP.of (iv := iv) (hnk.putPc k (by omega) (by omega)) (hmv.set hnk.fq 7 (.int .i64 k)))
    have hql2 : q < w2.heap.size := Nat.lt_of_lt_of_le HMA.out.lt hg2.size
    clear hnew hfr hrow hfit hnk hmv ho2 hg2 hloc
    go_wp2_with fail
    go_end0
    exact ⟨rfl, HR.out⟩
end
end Go.Proofs.Ytgkdphnhfjjepaa

/- Rows of which a part is written at once: copy, clear. -/
namespace Go.Proofs.Ytgkdphnhfjjepaa
open Go.RowKit Go.Waf
set_option maxRecDepth 100000
set_option linter.unusedVariables false

theorem setCells_os (g : Nat) : ∀ (cs : List Value) (off : Nat) (w : World), (w.setCells g off cs).os = w.os ∧ (w.setCells g off cs).tape = w.tape ∧ (w.setCells g off cs).output = w.output ∧ w.heap.size ≤ (w.setCells g off cs).heap.size
  | [], _, _ => ⟨rfl, rfl, rfl, Nat.le_refl _⟩
  | v :: r, off, w => by
    have h := setCells_os g r (off + 1) (w.setCell ⟨g, off, none⟩ v)
    have hs := (fr_set w g off v)
    exact ⟨h.1.trans hs.os, h.2.1.trans hs.tape, h.2.2.1.trans hs.output, Nat.le_trans hs.size h.2.2.2⟩
theorem setCells_other (g k : Nat) (hk : k ≠ g) : ∀ (cs : List Value) (off : Nat) (w : World), (w.setCells g off cs).heap[k]? = w.heap[k]?
  | [], _, _ => rfl
  | v :: r, off, w => by
    have h := setCells_other g k hk r (off + 1) (w.setCell ⟨g, off, none⟩ v)
    rw [World.setCells, h]; exact Below.heap_setCell _ _ _ _ hk
theorem splice_cons (cur : List Value) (off : Nat) (v : Value) (r : List Value) (h : off + (r.length + 1) ≤ cur.length) : splice (cur.set off v) (off + 1) r = splice cur off (v :: r) := by
  unfold splice
  have e1 : (cur.set off v).take (off + 1) = cur.take off ++ [v] := by
    rw [List.take_succ_eq_append_getElem (by simp; omega), List.take_set_of_le (by omega)]; simp
  have e2 : (cur.set off v).drop (off + 1 + r.length) = cur.drop (off + (r.length + 1)) := by
    rw [List.drop_set_of_lt (by omega), show off + 1 + r.length = off + (r.length + 1) by omega]
  rw [e1, e2]; simp
theorem setCells_heap (g : Nat) (t : TypeId) : ∀ (cs : List Value) (off : Nat) (w : World) (cur : List Value), w.heap[g]? = some (.cells cur.toArray t (0, 0)) → off + cs.length ≤ cur.length → (w.setCells g off cs).heap[g]? = some (.cells (splice cur off cs).toArray t (0, 0))
  | [], off, w, cur, h, _ => by simpa [splice, World.setCells] using h
  | v :: r, off, w, cur, h, hl => by
    have h1 := setCells_heap g t r (off + 1) (w.setCell ⟨g, off, none⟩ v) (cur.set off v) (heap_set_cells h v) (by simp at hl ⊢; omega)
    rw [World.setCells, h1, splice_cons cur off v r (by simpa using hl)]
theorem far1 {W : World} {b o : Nat} {p : Addr} {u v : Value} (hne : p.block < b) (h : W.cell? p = some v) : (W.setCell ⟨b, o, none⟩ u).cell? p = some v := by
  rw [World.cell?_setCell_other _ _ _ _ (by intro h; rw [← h] at hne; exact Nat.lt_irrefl _ hne)]; exact h
theorem alloc_keep {W : World} {p : Addr} {v : Value} {o : Obj} (h : W.cell? p = some v) : (W.alloc o).cell? p = some v := (World.cell?_alloc_lt W o p (World.block_lt_of_cell? W p h)).trans h
/-- clear, as one step of a region that draws its order; only its row has turned. -/
theorem step_clear_fr {P : Program} {ops : Array Oper} {o : Oper} {a : Act} {w : World} {K : Act → World → Prop} {Q : Exit → Act → World → Prop} {E : Prop} (hgd : o.guard = none) (d : Operand) (dT elem : TypeId)
    (ho : o.op = .call { callee := .builtin .clear, args := #[d], argTypes := #[dT] }) (hu : P.underlying dT = some (.slice elem)) (z : Value) (hv : ∀ w, (zeroValue elem).run P w = .ok z w) (hz : z.cells = #[z]) (h1 : z.oneCell' = true)
    (dp : Option Addr) (n c : Nat) (hd : a.eval d = .slice dp n c) (g off : Nat) (hpos : 0 < n → dp = some ⟨g, off, none⟩) (cur : List Value) (t : TypeId) (hg : w.heap[g]? = some (.cells cur.toArray t (0, 0))) (hfit : off + n ≤ cur.length)
    (h : ∀ w', RowKit.Hid (w'.heap[g]? = some (.cells (splice cur off (List.replicate n z)).toArray t (0, 0))) → RowKit.Hid (Fr (fun k => k = g) w w') → K (a.put o.dst (.tuple #[])) w') :
    if Region.wanted o (yielded ops a.tmps) = true then Oper.wp P o a w K Q else E := by
  have hw : Region.wanted o (yielded ops a.tmps) = true := by simp [Region.wanted, hgd]
  rw [if_pos hw]
  rcases Nat.eq_zero_or_pos n with h0 | h0
  · subst h0
    have hrun : (Builtin.clear_ #[dT] o.type #[.slice dp 0 c]).run P w = .ok (.tuple #[]) w := by
      cases dp <;> simp [Builtin.clear_, run_underlying hu]
    unfold Oper.wp
    simp [execOp, ho, resolve, invoke, builtin, hd, hrun, Result.andThen]
    exact h w (show _ = _ by simpa [splice] using hg) (Fr.refl _ _)
  · obtain rfl := hpos h0
    have hrun := Lib.run_clear_slice w dT elem o.type z hu hv hz h1 g off n c h0 (fun j hj => by rw [cell_of_row w g _ _ _ _ hg, List.getElem?_toArray, List.getElem?_eq_getElem (by omega)]; rfl) (fun j hj => frozen_of_row w g _ _ _ hg)
    unfold Oper.wp
    simp [execOp, ho, resolve, invoke, builtin, hd, hrun, Result.andThen]
    obtain ⟨s1, s2, s3, s4⟩ := setCells_os g (List.replicate n z) off w
    exact h _ (setCells_heap g t _ off w cur hg (by simpa using hfit)) ⟨s1, s2, s3, s4, fun k _ hk => setCells_other g k hk _ _ _⟩
/-- copy, as one step of a region that draws its order; only its row has turned. -/
theorem step_copy_fr {P : Program} {ops : Array Oper} {o : Oper} {a : Act} {w : World} {K : Act → World → Prop} {Q : Exit → Act → World → Prop} {E : Prop} (hgd : o.guard = none) (d s : Operand) (dT sT : TypeId)
    (ho : o.op = .call { callee := .builtin .copy, args := #[d, s], argTypes := #[dT, sT] }) (elem : TypeId) (hu : P.underlying dT = some (.slice elem)) (hsz : (P.info? elem).map (·.size) = some 1)
    (dp sp : Option Addr) (dLen dCap sLen sCap : Nat) (hd : a.eval d = .slice dp dLen dCap) (hs : a.eval s = .slice sp sLen sCap)
    (g off : Nat) (cur : List Value) (t : TypeId) (hg : w.heap[g]? = some (.cells cur.toArray t (0, 0))) (cs : List Value) (hn : cs.length = Nat.min sLen dLen)
    (hpos : 0 < cs.length → dp = some ⟨g, off, none⟩ ∧ ∃ ad, sp = some ad ∧ ∀ j v, cs[j]? = some v → w.cell? (ad.add j) = some v)
    (hfit : off + cs.length ≤ cur.length) (h1 : ∀ v ∈ cs, v.oneCell' = true)
    (h : ∀ w', RowKit.Hid (w'.heap[g]? = some (.cells (splice cur off cs).toArray t (0, 0))) → RowKit.Hid (Fr (fun k => k = g) w w') → K (a.put o.dst (goInt cs.length)) w') :
    if Region.wanted o (yielded ops a.tmps) = true then Oper.wp P o a w K Q else E := by
  have hw : Region.wanted o (yielded ops a.tmps) = true := by simp [Region.wanted, hgd]
  rw [if_pos hw]
  by_cases h0 : cs.length = 0
  · obtain rfl : cs = [] := List.eq_nil_of_length_eq_zero h0
    have hrun := run_copy_none (P := P) w dT sT o.type elem dp sp dLen dCap sLen sCap hu hsz (by simpa using hn.symm)
    unfold Oper.wp
    simp [execOp, ho, resolve, invoke, builtin, hd, hs, hrun, Result.andThen]
    exact h w (show _ = _ by simpa [splice] using hg) (Fr.refl _ _)
  · obtain ⟨rfl, ad, rfl, hsrc⟩ := hpos (by omega)
    have hrun := run_copy_row (P := P) w dT sT o.type elem g off dLen dCap ad sLen sCap cur.toArray t cs hu hsz hg hn hsrc (by simpa using hfit) h1
    unfold Oper.wp
    simp [execOp, ho, resolve, invoke, builtin, hd, hs, hrun, Result.andThen]
    exact h _ (show _ = _ by simpa [splice] using setRow_heap w g _ _ t _ hg) ⟨rfl, rfl, rfl, by simp [World.setRow], fun k hk hne => setRow_other w g k _ hne⟩
/-- A row that is one's own, a part of it written. -/
theorem owns_splice {w : World} {B e g n cap : Nat} {xs : List Value} (h : w.ownsRow B e 1 (.slice (some ⟨g, 0, none⟩) n cap) n xs) : ∃ cur : List Value, w.heap[g]? = some (.cells cur.toArray e (0, 0)) ∧ n ≤ cur.length ∧
    ∀ (w' : World) (off : Nat) (cs : List Value), w'.heap[g]? = some (.cells (splice cur off cs).toArray e (0, 0)) → off + cs.length ≤ n → w'.ownsRow B e 1 (.slice (some ⟨g, 0, none⟩) n cap) n (splice xs off cs) := by
  have hxl : xs.length = n := by have := h.1; omega
  rcases h.2 with ⟨h1, _⟩ | ⟨g', cap', cur, hv, hb, hg, h1, h2, h3, h4⟩
  · cases h1
  · cases hv
    rw [Nat.mul_one] at h3 h4
    have hcl : cur.toList.length = cap := by simpa using h3
    refine ⟨cur.toList, by simpa using hg, by omega, fun w' off cs hg' hfit => ⟨by rw [length_splice _ _ _ (by omega)]; omega, .inr ⟨g, cap, _, rfl, hb, hg', h1, h2, ?_, ?_⟩⟩⟩
    · rw [List.size_toArray, length_splice _ _ _ (by omega)]; omega
    · rw [Nat.mul_one]
      show (splice cur.toList off cs).take n = _
      rw [← h4]
      unfold splice
      rw [List.take_append, List.take_append, List.take_of_length_le (by rw [List.length_take]; omega), List.take_of_length_le (l := cs) (by rw [List.length_take]; omega), List.take_take, Nat.min_eq_left (by omega), List.length_take, Nat.min_eq_left (by omega), List.drop_take]
      congr 3; omega
theorem splice_i32s (l c : List Int) (off : Nat) : splice (i32s l) off (i32s c) = i32s (splice l off c) := by
  simp [splice, i32s, List.map_take, List.map_drop]
end Go.Proofs.Ytgkdphnhfjjepaa

/- The program's lead: back from a call. -/
namespace Go.Proofs.Ytgkdphnhfjjepaa
open Go.RowKit Go.Waf
set_option maxRecDepth 100000
set_option linter.unusedVariables false

section
variable {w : World} {B q : Nat} {F : Nat → Prop} {cv mv iv sv kv ov : Value} {s : SSt}
theorem lead_29no (h : SM true w B q F cv mv iv sv kv ov s) (k : Int) (hl : s.kept = []) :
    Calls Try.prog 52 #[.pointer (some ⟨q, 0, none⟩), codeV 29 k] w fun e w' => e = .panicked faultP ∧ PnP w B q F cv mv kv ov s w' := by
  obtain ⟨a, c, rfl, _⟩ := rd_shape h.kept.rd
  have HR := Lib.hid (PnP.of (h.alloc (codeBox 29 k)) ((Mv.refl w F).alloc (codeBox 29 k)) rfl rfl rfl rfl)
  have hql := h.lt
  have c6 := h.p6
  rw [hl] at c6
  have HR' := Lib.hid (show PnP w B q F cv mv (.slice a s.kept.length c) ov s _ from HR.out)
  simp only [codeV]
  clear h hl
  go_enter Try.func52, Try.ntmps52
  go_wp2_with fail
  refine (must_no _).mono ?_; rintro e w2 ⟨rfl, rfl⟩
  exact ⟨rfl, rfl, HR.out⟩
set_option maxHeartbeats 3200000 in
theorem lead_29 (h : SM true w B q F cv mv iv sv kv ov s) (k : Int) {x : Int × Int} {t : List (Int × Int)} (hkt : s.kept = x :: t) :
    Calls Try.prog 52 #[.pointer (some ⟨q, 0, none⟩), codeV 29 k] w fun e w' => e = .returned (.tuple #[]) ∧ FuP w B q F cv mv iv { s with kept := t, top := s.fp, pc := x.1, fp := x.2 } w' := by
  have hkept : w.ownsRow B 100 2 kv s.kept.length (keptCells s.kept.reverse) := h.kept
  have hl : s.kept.length = t.length + 1 := by rw [hkt]; rfl
  have hkl := h.fit.kl
  obtain ⟨g, c, rfl, hg, hgl, hN, hc⟩ := owns_some hkept (by omega)
  have hgq : g ≠ q := (h.fk g rfl).2
  have hxb := h.fit.kf x (by rw [hkt]; exact List.mem_cons_self ..)
  have hrow : keptCells s.kept.reverse = keptCells t.reverse ++ keptCells [x] := by rw [hkt, List.reverse_cons, keptCells_append]
  have hget := keptCells_get s.kept.reverse t.length (by simp; omega)
  have hgx : s.kept.reverse.getD t.length (0, 0) = x := by rw [hkt]; simp
  rw [hgx] at hget
  have cx1 : w.cell? ⟨g, t.length * 2, none⟩ = some (.int .i64 x.1) := by
    rw [hkept.cellAt _ (by omega), ← hget.1]; congr 1; omega
  have cx2 : w.cell? ⟨g, t.length * 2 + 1, none⟩ = some (.int .i64 x.2) := by
    rw [hkept.cellAt _ (by omega), ← hget.2]; congr 2; omega
  have HS := Lib.hid (fun (W : World) (h : W.ownsRow B 100 2 (.slice (some ⟨g, 0, none⟩) s.kept.length c) s.kept.length (keptCells s.kept.reverse)) => (owns_shorter (by rw [← hrow]; exact h) (by rw [keptCells_length, List.length_reverse]) (by omega) (by omega) : W.ownsRow B 100 2 (.slice (some ⟨g, 0, none⟩) t.length c) t.length (keptCells t.reverse)))
  have HXB := Lib.hid hxb
  have H := Lib.hid h
  have hql := h.lt
  have c6 := h.p6
  obtain ⟨x1, x2⟩ := x
  simp only at cx1 cx2 
  obtain ⟨N, hNe⟩ : ∃ N, N = s.kept.length := ⟨_, rfl⟩
  obtain ⟨n, hne⟩ : ∃ n, n = t.length := ⟨_, rfl⟩
  rw [← hNe] at c6 hl hkl hN
  rw [← hne] at hl cx1 cx2
  have HN := Lib.hid hNe
  have Hn := Lib.hid hne
  have HKT := Lib.hid hkt
  have h1 : (0 : Int) ≤ (n : Int) := by omega
  have h2 : (n : Int) < (N : Int) := by omega
  have h3 : IntKind.i64.wrap ((N : Int) - 1) = n := by rw [show (N : Int) - 1 = n by omega]; exact IntWalk.i64_in _ (by omega)
  have h4 : (0 : Int) < (N : Int) := by omega
  have h5 : (n : Int) ≤ (c : Int) := by omega
  have h6 : ¬ c = 0 := by omega
  have h7 : 0 < c := by omega
  have h8 : n ≤ c := by omega
  have h9 : 0 < N := by omega
  simp only [codeV]
  clear h hNe hkt hkept hrow hget hgx hne hl hxb
  go_enter Try.func52, Try.ntmps52
  go_wp2_with fail
  refine (must_ok _).mono ?_; rintro e w1 ⟨rfl, hw1⟩
  have hM1 : SM true w1 B q F cv mv iv sv (.slice (some ⟨g, 0, none⟩) N c) ov s := by rw [hw1, HN.out]; exact H.out.alloc _
  have hm1 : Mv w F F w1 := by rw [hw1]; exact (Mv.refl w F).alloc _
  have d1 := hM1.p6
  have d2 : w1.cell? ⟨g, n * 2, none⟩ = some (.int .i64 x1) := by rw [hw1]; exact alloc_keep cx1
  have d3 : w1.cell? ⟨g, n * 2 + 1, none⟩ = some (.int .i64 x2) := by rw [hw1]; exact alloc_keep cx2
  have hql1 := hM1.lt
  have hgl1 : g < w1.heap.size := World.block_lt_of_cell? _ _ d2
  have HM1 := Lib.hid hM1
  have Hm1 := Lib.hid hm1
  clear hw1 c6 cx1 cx2 hM1 hm1
  go_wp2_with fail
  go_region_held3 (fun W => W.cell? ⟨q, 6, none⟩ = some (.slice (some ⟨g, 0, none⟩) N c) ∧ W.cell? ⟨g, n * 2, none⟩ = some (.int .i64 x1) ∧ W.cell? ⟨g, n * 2 + 1, none⟩ = some (.int .i64 x2)) (first | (with_reducible exact ⟨d1, d2, d3⟩) | (with_reducible exact ⟨alloc_keep d1, alloc_keep d2, alloc_keep d3⟩) | go_keep) (fail)
  obtain ⟨W, hW⟩ : ∃ W : World, W = (w1.alloc (.cells #[.int .i64 x1, .int .i64 x2] 100)).drew := ⟨_, rfl⟩
  rw [← hW]
  have hM2 : SM true W B q F cv mv iv sv (.slice (some ⟨g, 0, none⟩) N c) ov s := by rw [hW]; exact (HM1.out.alloc _).drew
  have hm2 : Mv w F F W := by rw [hW]; exact (Hm1.out.alloc _).drewN 1
  have b1 : W.cell? ⟨w1.heap.size, 0, none⟩ = some (.int .i64 x1) := by rw [hW]; exact World.cell?_alloc_new w1 _ _ _
  have b2 : W.cell? ⟨w1.heap.size, 1, none⟩ = some (.int .i64 x2) := by rw [hW]; exact World.cell?_alloc_new w1 _ _ _
  have hql2 := hM2.lt
  have e6 := hM2.p6
  have z6 := hM2.frozen 6
  have e4 := hM2.p4
  have z4 := hM2.frozen 4
  have e5 := hM2.p5
  have z5 := hM2.frozen 5
  have e7 := hM2.p7
  have z7 := hM2.frozen 7
  have HM2 := Lib.hid hM2
  have Hm2 := Lib.hid hm2
  have hnq : q ≠ w1.heap.size := by omega
  clear hW d1 d2 d3 hM2 hm2
  have hkl2 : t.length ≤ 1000 := by rw [← Hn.out]; omega
  have hfit : SFit { s with kept := t } := H.out.fit.keeps hkl2 (fun y hy => H.out.fit.kf y (by rw [HKT.out]; exact List.mem_cons_of_mem _ hy))
  have hfr : Fr (fun k => (Value.slice (some ⟨g, 0, none⟩) N c).ownBlock = some k) W W := Fr.refl _ _
  have hnew : newer W W (.slice (some ⟨g, 0, none⟩) N c) (.slice (some ⟨g, 0, none⟩) n c) := fun k hk => .inl hk
  have hkr : W.ownsRow B 100 2 (.slice (some ⟨g, 0, none⟩) n c) t.length (keptCells t.reverse) := by
    have := HM2.out.kept
    rw [HN.out] at this
    rw [Hn.out]; exact HS.out W this
  have h3a := HM2.out.newK hfr hkr hnew hfit
  have m3 := Hm2.out.trans (fr_also (B := B) (j := 6) hfr (fun k hk => (HM2.out.fk k hk).1) HM2.out.fq hnew)
  have h4a := h3a.putTop s.fp H.out.fit.f0 H.out.fit.f1
  have m4 := m3.set h3a.fq 5 (.int .i64 s.fp)
  have HRA := Lib.hid (FuP.of (iv := iv) ((h4a.putPc x1 HXB.out.2.2.1 HXB.out.2.2.2).putFp x2 HXB.out.1 HXB.out.2.1) ((m4.set h3a.fq 7 (.int .i64 x1)).set h3a.fq 4 (.int .i64 x2)))
  have HRB := Lib.hid (FuP.of (iv := iv) ((h4a.putFp x2 HXB.out.1 HXB.out.2.1).putPc x1 HXB.out.2.2.1 HXB.out.2.2.2) ((m4.set h3a.fq 4 (.int .i64 x2)).set h3a.fq 7 (.int .i64 x1)))
  clear hfit hfr hnew hkr h3a m3 h4a m4
  go_wp2_with fail
  go_region_with (fail)
  all_goals
    go_wp2_with fail
    go_region_with (fail)
  all_goals
    go_end0
    first
      | exact ⟨rfl, HRA.out⟩ | exact ⟨rfl, HRB.out⟩ | exact ⟨rfl, HRA.out.drewN 1⟩ | exact ⟨rfl, HRB.out.drewN 1⟩ | exact ⟨rfl, HRA.out.drewN 2⟩ | exact ⟨rfl, HRB.out.drewN 2⟩
end
end Go.Proofs.Ytgkdphnhfjjepaa

/- The program's lead: a frame. -/
namespace Go.Proofs.Ytgkdphnhfjjepaa
open Go.RowKit Go.Waf
set_option maxRecDepth 100000
set_option linter.unusedVariables false

/-- wpStill, held so that no tactic unfolds it: a region with a guard that is not met. -/
structure WS (P : Program) (ops : Array Oper) (w : World) (Q : Act → Prop) (l : List Oper) (a : Act) : Prop where
  out : wpStill P ops w Q l a
theorem WS.step {P : Program} {ops : Array Oper} {w : World} {Q : Act → Prop} {a : Act} {o : Oper} {rest : List Oper}
    (h : ∀ K : Act → Prop, (∀ a, WS P ops w Q rest a → K a) → if Region.wanted o (yielded ops a.tmps) then o.still P a w K else K (a.put o.dst undef)) : WS P ops w Q (o :: rest) a :=
  ⟨wpStill_step fun K hK => h K fun a ha => hK a ha.out⟩
theorem WS.nil {P : Program} {ops : Array Oper} {w : World} {Q : Act → Prop} {a : Act} (h : Q a) : WS P ops w Q [] a := ⟨wpStill_nil h⟩
section
variable {w : World} {B q : Nat} {F : Nat → Prop} {cv mv iv sv kv ov : Value} {s : SSt}
set_option maxHeartbeats 3200000 in
theorem lead_28no (h : SM true w B q F cv mv iv sv kv ov s) (k : Int) (hk0 : I32 k) (hl : ¬ (0 ≤ k ∧ k ≤ (s.mem.length : Int) - s.top)) :
    Calls Try.prog 52 #[.pointer (some ⟨q, 0, none⟩), codeV 28 k] w fun e w' => e = .panicked faultP ∧ PnP w B q F cv mv kv ov s w' := by
  unfold I32 at hk0
  obtain ⟨k0, k1⟩ := hk0
  obtain ⟨a, c, rfl, _⟩ := owns_shape h.mem
  have HR := Lib.hid (PnP.of (h.alloc (codeBox 28 k)) ((Mv.refl w F).alloc (codeBox 28 k)) rfl rfl rfl rfl)
  have hql := h.lt
  have c1 := h.p1
  have c5 := h.p5
  have t0 := h.fit.t0
  have t1 := h.fit.t1
  have ml := h.fit.ml
  generalize s.mem.length = N at c1 t1 ml hl HR
  generalize s.top = T at c5 t0 t1 hl
  have e1 : IntKind.i64.wrap ((N : Int) - T) = N - T := IntWalk.i64_in _ (by omega)
  simp only [codeV]
  clear h
  by_cases h1 : 0 ≤ k
  · have h2 : ¬ k ≤ (N : Int) - T := by omega
    have h3 : decide (k ≤ (N : Int) - T) = false := by simp; omega
    clear hl
    go_enter Try.func52, Try.ntmps52
    go_wp2_with fail
    obtain ⟨W1, hW1⟩ : ∃ W1 : World, W1 = w.alloc (codeBox 28 k) := ⟨_, rfl⟩
    have hR1 := HR.out.drewN 1
    rw [← hW1] at hR1
    have d1 : W1.cell? ⟨q, 1, none⟩ = some (.slice a N c) := by rw [hW1]; exact alloc_keep c1
    have d5 : W1.cell? ⟨q, 5, none⟩ = some (.int .i64 T) := by rw [hW1]; exact alloc_keep c5
    unfold codeBox at hW1
    rw [← hW1]
    refine wp_region_still_tail 16 (by kernel_rfl) (by kernel_rfl) ?_
    change PnP _ _ _ _ _ _ _ _ _ W1.drew at hR1
    have HR1 := Lib.hid hR1
    clear hW1 hR1 c1 c5
    simp only [List.take_succ_cons, List.take_zero, List.drop_succ_cons, List.drop_zero]
    repeat still_step
    refine wpStill_nil ?_
    go_wp2_with (go_at_call 49; refine (must_no _).mono ?_; rintro e w1 ⟨rfl, rfl⟩)
    exact ⟨rfl, rfl, HR1.out⟩
  · have h2 : decide (0 ≤ k) = false := by simp; omega
    clear hl h1
    go_enter Try.func52, Try.ntmps52
    go_wp2_with fail
    obtain ⟨W1, hW1⟩ : ∃ W1 : World, W1 = w.alloc (codeBox 28 k) := ⟨_, rfl⟩
    have hR1 := HR.out.drewN 1
    rw [← hW1] at hR1
    have d1 : W1.cell? ⟨q, 1, none⟩ = some (.slice a N c) := by rw [hW1]; exact alloc_keep c1
    have d5 : W1.cell? ⟨q, 5, none⟩ = some (.int .i64 T) := by rw [hW1]; exact alloc_keep c5
    unfold codeBox at hW1
    rw [← hW1]
    refine wp_region_still_tail 16 (by kernel_rfl) (by kernel_rfl) ?_
    change PnP _ _ _ _ _ _ _ _ _ W1.drew at hR1
    have HR1 := Lib.hid hR1
    clear hW1 hR1 c1 c5
    simp only [List.take_succ_cons, List.take_zero, List.drop_succ_cons, List.drop_zero]
    refine WS.out ?_
    repeat
      refine WS.step (fun K hK => ?_)
      go_simp
      refine hK _ ?_
      clear hK K
    refine WS.nil ?_
    go_wp2_with (go_at_call 49; refine (must_no _).mono ?_; rintro e w1 ⟨rfl, rfl⟩)
    exact ⟨rfl, rfl, HR1.out⟩
theorem owns_splice' {w : World} {B e n cap : Nat} {a : Option Addr} {xs : List Value} (h : w.ownsRow B e 1 (.slice a n cap) n xs) : (a = none ∧ n = 0 ∧ cap = 0) ∨ ∃ g, ∃ cur : List Value, a = some ⟨g, 0, none⟩ ∧ w.heap[g]? = some (.cells cur.toArray e (0, 0)) ∧ n ≤ cur.length ∧
    ∀ (w' : World) (off : Nat) (cs : List Value), w'.heap[g]? = some (.cells (splice cur off cs).toArray e (0, 0)) → off + cs.length ≤ n → w'.ownsRow B e 1 (.slice (some ⟨g, 0, none⟩) n cap) n (splice xs off cs) := by
  rcases h.2 with ⟨h1, h2⟩ | ⟨g, c, cur, hv, _⟩
  · cases h1; exact .inl ⟨rfl, rfl, rfl⟩
  · cases hv
    obtain ⟨cur, h1, h2, h3⟩ := owns_splice h
    exact .inr ⟨g, cur, rfl, h1, h2, h3⟩
theorem SM.memRow {p : Bool} (h : SM p w B q F cv mv iv sv kv ov s) (hm : 0 < s.mem.length) : ∃ g c, mv = .slice (some ⟨g, 0, none⟩) s.mem.length c := by
  obtain ⟨g, c, h1, _⟩ := owns_some h.mem hm
  exact ⟨g, c, h1⟩
set_option maxHeartbeats 3200000 in
theorem lead_28 (h : SM true w B q F cv mv iv sv kv ov s) (k : Nat) (hk0 : (k : Int) ≤ 2147483647) (hl : (k : Int) ≤ (s.mem.length : Int) - s.top) :
    Calls Try.prog 52 #[.pointer (some ⟨q, 0, none⟩), codeV 28 k] w fun e w' => e = .returned (.tuple #[]) ∧ FuP w B q F cv mv iv { s with fp := s.top, top := s.top + k, mem := splice s.mem s.top.toNat (List.replicate k 0) } w' := by
  obtain ⟨a, c, rfl, hnc, hcm, _⟩ := owns_shape h.mem
  have H := Lib.hid h
  have hql := h.lt
  have c1 := h.p1
  have c5 := h.p5
  have t0 := h.fit.t0
  have t1 := h.fit.t1
  have ml := h.fit.ml
  obtain ⟨N, hNe⟩ : ∃ N, N = s.mem.length := ⟨_, rfl⟩
  obtain ⟨T, hTe⟩ : ∃ T : Nat, (T : Int) = s.top := ⟨s.top.toNat, by omega⟩
  have eT : s.top.toNat = T := by omega
  have e2 : IntKind.i64.wrap ((T : Int) + k) = T + k := IntWalk.i64_in _ (by have := h.fit.ml; omega)
  rw [eT, ← hTe]
  rw [← hNe] at c1 t1 ml hl hnc
  rw [← hTe] at c5 t0 t1 hl
  have HN := Lib.hid hNe
  have HT := Lib.hid hTe
  have e1 : IntKind.i64.wrap ((N : Int) - T) = N - T := IntWalk.i64_in _ (by omega)
  have k0 : (0 : Int) ≤ (k : Int) := by omega
  simp only [codeV]
  clear h hNe hTe eT
  go_enter Try.func52, Try.ntmps52
  go_wp2_with fail
  obtain ⟨W1, hW1⟩ : ∃ W1 : World, W1 = w.alloc (codeBox 28 k) := ⟨_, rfl⟩
  have d1 : W1.cell? ⟨q, 1, none⟩ = some (.slice a N c) := by rw [hW1]; exact alloc_keep c1
  have d5 : W1.cell? ⟨q, 5, none⟩ = some (.int .i64 T) := by rw [hW1]; exact alloc_keep c5
  have hM1 : SM true W1.drew B q F cv (.slice a N c) iv sv kv ov s := by rw [hW1, HN.out]; exact (H.out.alloc _).drew
  have hm1 : Mv w F F W1.drew := by rw [hW1]; exact ((Mv.refl w F).alloc _).drewN 1
  unfold codeBox at hW1
  rw [← hW1]
  refine wp_region_still_tail 16 (by kernel_rfl) (by kernel_rfl) ?_
  have HM1 := Lib.hid hM1
  have Hm1 := Lib.hid hm1
  clear hW1 hM1 hm1 c1 c5
  simp only [List.take_succ_cons, List.take_zero, List.drop_succ_cons, List.drop_zero]
  repeat still_step
  refine wpStill_nil ?_
  go_wp2_with fail
  refine (must_ok _).mono ?_; rintro e w1 ⟨rfl, hw1⟩
  have hM2 : SM true w1 B q F cv (.slice a N c) iv sv kv ov s := by rw [hw1]; exact HM1.out
  have hm2 : Mv w F F w1 := by rw [hw1]; exact Hm1.out
  have g5 : w1.cell? ⟨q, 5, none⟩ = some (.int .i64 T) := by rw [HT.out]; exact hM2.p5
  have f5 := hM2.frozen 5
  have g4 := hM2.p4
  have f4 := hM2.frozen 4
  have hql1 := hM2.lt
  have HM2 := Lib.hid hM2
  have Hm2 := Lib.hid hm2
  clear hw1 hM2 hm2 d1 d5
  go_wp2_with fail
  go_region_with (fail)
  all_goals
    obtain ⟨W3, hW3⟩ : ∃ W3 : World, W3 = ((w1.setCell ⟨q, 4, none⟩ (.int .i64 T)).setCell ⟨q, 5, none⟩ (.int .i64 (T + k))).drew := ⟨_, rfl⟩
    rw [← hW3]
    have hT1 : (T : Int) ≤ s.mem.length := by rw [HT.out]; exact H.out.fit.t1
    have hT2 : (T : Int) + k ≤ s.mem.length := by rw [← HN.out]; omega
    have hM3 : SM true W3 B q F cv (.slice a N c) iv sv kv ov { s with fp := T, top := T + k } := by rw [hW3]; exact ((HM2.out.putFp T (by omega) hT1).putTop (T + k) (by show (0 : Int) ≤ T + k; omega) hT2).drew
    have hm3 : Mv w F F W3 := by rw [hW3]; exact ((Hm2.out.set H.out.fq 4 (.int .i64 T)).set H.out.fq 5 (.int .i64 (T + k))).drewN 1
    have r1 := hM3.p1
    have r4 := hM3.p4
    have r5 := hM3.p5
    have hmem := hM3.mem
    have HM3 := Lib.hid hM3
    have Hm3 := Lib.hid hm3
    clear hW3 hM3 hm3 g5 f5 g4 f4
    have hmem' : W3.ownsRow B 21 1 (.slice a N c) N (i32s s.mem) := by rw [HN.out]; rw [HN.out] at hmem; exact hmem
    clear hmem
    obtain ⟨g, cur, rfl, hg, hcl, hnew⟩ := (owns_splice' hmem').resolve_left (fun ⟨h0, _, _⟩ => HM3.out.mn (by rw [h0]; rfl))
    obtain ⟨dp, hdp⟩ : ∃ dp : Option Addr, (if c = T then some (⟨g, 0, none⟩ : Addr) else some ⟨g, T, none⟩) = dp := ⟨_, rfl⟩
    have hpos : 0 < k → dp = some ⟨g, T, none⟩ := fun h0 => by rw [← hdp, if_neg (by omega)]
    have HPOS := Lib.hid hpos
    have HG := Lib.hid hg
    have HNEW := Lib.hid hnew
    clear hmem' hpos hg hnew
    have q1 : (0 : Int) ≤ (T : Int) := by omega
    have q2 : (T : Int) ≤ (T : Int) + k := by omega
    have q3 : (T : Int) + k ≤ (c : Int) := by omega
    have q4 : T + k ≤ c := by omega
    have q5 : T ≤ c := by omega
    have q6 : ((T : Int) + k).toNat - T = k := by omega
    go_wp2_with fail
    go_region_law (refine step_clear_fr rfl (.tmp 139) 33 21 rfl Try.underlying33 (.int .i32 0) (fun _ => by kernel_rfl) rfl rfl dp k (c - T) (by simp [Act.eval, Act.put]) g T HPOS.out cur 21 HG.out (by omega) ?_; intro w4 hb4 hf4)
    all_goals
      have hrow := HNEW.out w4 T (List.replicate k (.int .i32 0)) hb4.out (by rw [List.length_replicate]; omega)
      have e4 : splice (i32s s.mem) T (List.replicate k (.int .i32 0)) = i32s (splice s.mem T (List.replicate k 0)) := by rw [← splice_i32s]; simp [i32s]
      rw [e4] at hrow
      have hlen : (splice s.mem T (List.replicate k (0 : Int))).length = s.mem.length := length_splice _ _ _ (by rw [List.length_replicate, ← HN.out]; omega)
      have hall : ∀ x ∈ splice s.mem T (List.replicate k (0 : Int)), I32 x := fun x hx => by
        unfold splice at hx
        rcases List.mem_append.1 hx with hx | hx
        · exact H.out.fit.mem x (List.mem_of_mem_take hx)
        rcases List.mem_append.1 hx with hx | hx
        · rw [List.eq_of_mem_replicate hx]; unfold I32; omega
        · exact H.out.fit.mem x (List.mem_of_mem_drop hx)
      have hM4 := HM3.out.drew.newM (w1 := w4) (hf4.out.mono fun j _ hj => by rw [hj]; rfl) (l := splice s.mem T (List.replicate k 0)) (by rw [hlen, ← HN.out]; exact hrow) (HM3.out.fit.memo hall hlen)
      have HR := Lib.hid (FuP.of (iv := iv) hM4 ((Hm3.out.drewN 1).trans ⟨hf4.out.mono fun j _ hj => by rw [hj]; exact (HM3.out.fm g rfl).1, fun _ h => .inl h⟩))
      clear hrow e4 hlen hall hM4 hb4 hf4
      go_wp2_with fail
      go_end0
      exact ⟨rfl, by have := HR.out; rw [HN.out] at this; exact this⟩
end
end Go.Proofs.Ytgkdphnhfjjepaa

/- The program's carry: what lays, doubles, drops, exchanges; a place of the frame; the input. -/
namespace Go.Proofs.Ytgkdphnhfjjepaa
open Go.RowKit Go.Waf
set_option maxRecDepth 100000
set_option linter.unusedVariables false

section
variable {w : World} {B q : Nat} {F : Nat → Prop} {cv mv iv sv kv ov : Value} {s : SSt}
theorem OpP.fu {w1 : World} {F1 : Nat → Prop} {s1 : SSt} (h : OpP w1 B q F1 cv mv iv kv ov s1 w) (w0 : World) {F0 : Nat → Prop} (hm : Mv w0 F0 F1 w1) : FuP w0 B q F0 cv mv iv s1 w := by
  obtain ⟨F', sv', h1, h2⟩ := h; exact ⟨F', iv, sv', kv, ov, h1, rfl, hm.trans h2⟩
theorem carry_1 (h : SM true w B q F cv mv iv sv kv ov s) (k : Int) (hk : I32 k) (hl : s.st.length < 1000) :
    Calls Try.prog 53 #[.pointer (some ⟨q, 0, none⟩), codeV 1 k] w fun e w' => e = .returned (.tuple #[]) ∧ FuP w B q F cv mv iv { s with st := k :: s.st } w' := by
  have P1 := Lib.hid (push_m (h.alloc (codeBox 1 k)) k hk hl)
  have M0 := Lib.hid ((Mv.refl w F).alloc (codeBox 1 k))
  simp only [codeV]
  clear h hl hk
  go_enter Try.func53, Try.ntmps53
  go_wp2_with fail
  refine P1.out.mono ?_; rintro e w1 ⟨rfl, h1⟩
  have HR := Lib.hid (h1.fu w M0.out)
  clear h1
  go_wp2_with fail
  go_end0
  exact ⟨rfl, HR.out⟩
theorem carry_1no (h : SM true w B q F cv mv iv sv kv ov s) (k : Int) (hl : ¬ s.st.length < 1000) :
    Calls Try.prog 53 #[.pointer (some ⟨q, 0, none⟩), codeV 1 k] w fun e w' => e = .panicked faultP ∧ PnP w B q F cv mv kv ov s w' := by
  have P1 := Lib.hid (push_mno (h.alloc (codeBox 1 k)) k (by omega))
  have HR := Lib.hid (PnP.of (h.alloc (codeBox 1 k)) ((Mv.refl w F).alloc (codeBox 1 k)) rfl rfl rfl rfl)
  simp only [codeV]
  clear h hl
  go_enter Try.func53, Try.ntmps53
  go_wp2_with fail
  refine P1.out.mono ?_; rintro e w1 ⟨rfl, rfl⟩
  exact ⟨rfl, rfl, HR.out⟩
/-- The operations that take an operand first: there is none. -/
def takes (op : Int) : Prop := op = 2 ∨ op = 3 ∨ op = 4 ∨ op = 7
theorem carry_no0 (h : SM true w B q F cv mv iv sv kv ov s) (op k : Int) (ho : takes op) (hst : s.st = []) :
    Calls Try.prog 53 #[.pointer (some ⟨q, 0, none⟩), codeV op k] w fun e w' => e = .panicked faultP ∧ PnP w B q F cv mv kv ov s w' := by
  have P1 := Lib.hid (pop_mno (h.alloc (codeBox op k)) hst)
  have HR := Lib.hid (PnP.of (h.alloc (codeBox op k)) ((Mv.refl w F).alloc (codeBox op k)) rfl rfl rfl rfl)
  simp only [codeV]
  clear h hst
  rcases ho with rfl | rfl | rfl | rfl
  all_goals
    go_enter Try.func53, Try.ntmps53
    go_wp2_with fail
    refine P1.out.mono ?_; rintro e w1 ⟨rfl, rfl⟩
    exact ⟨rfl, rfl, HR.out⟩
theorem carry_2 (h : SM true w B q F cv mv iv sv kv ov s) (k : Int) {x : Int} {t : List Int} (hst : s.st = x :: t) (hl : s.st.length < 1000) :
    Calls Try.prog 53 #[.pointer (some ⟨q, 0, none⟩), codeV 2 k] w fun e w' => e = .returned (.tuple #[]) ∧ FuP w B q F cv mv iv { s with st := x :: s.st } w' := by
  have hx : I32 x := h.fit.st x (by rw [hst]; exact List.mem_cons_self ..)
  have P1 := Lib.hid (pop_m (h.alloc (codeBox 2 k)) hst)
  have M0 := Lib.hid ((Mv.refl w F).alloc (codeBox 2 k))
  rw [hst] at hl ⊢
  have hl1 : t.length < 1000 := by simp at hl; omega
  simp only [codeV]
  clear h hst
  go_enter Try.func53, Try.ntmps53
  go_wp2_with fail
  refine P1.out.mono ?_; rintro e w1 ⟨rfl, F1, sv1, h1, m1⟩
  have P2 := Lib.hid (push_m h1 x hx hl1)
  have M1 := Lib.hid (M0.out.trans m1)
  clear h1 m1
  go_wp2_with fail
  refine P2.out.mono ?_; rintro e w2 ⟨rfl, F2, sv2, h2, m2⟩
  have P3 := Lib.hid (push_m h2 x hx hl)
  have M2 := Lib.hid (M1.out.trans m2)
  clear h2 m2
  go_wp2_with fail
  refine P3.out.mono ?_; rintro e w3 ⟨rfl, h3⟩
  have HR := Lib.hid (h3.fu w M2.out)
  clear h3
  go_wp2_with fail
  go_end0
  exact ⟨rfl, HR.out⟩
theorem carry_2no (h : SM true w B q F cv mv iv sv kv ov s) (k : Int) {x : Int} {t : List Int} (hst : s.st = x :: t) (hl : ¬ s.st.length < 1000) :
    Calls Try.prog 53 #[.pointer (some ⟨q, 0, none⟩), codeV 2 k] w fun e w' => e = .panicked faultP ∧ PnP w B q F cv mv kv ov s w' := by
  have hx : I32 x := h.fit.st x (by rw [hst]; exact List.mem_cons_self ..)
  have hl0 := h.fit.sl
  have P1 := Lib.hid (pop_m (h.alloc (codeBox 2 k)) hst)
  have M0 := Lib.hid ((Mv.refl w F).alloc (codeBox 2 k))
  rw [hst] at hl hl0
  have hl1 : t.length < 1000 := by simp at hl0; omega
  have hl2 : 1000 ≤ (x :: t).length := by omega
  simp only [codeV]
  clear h hst
  go_enter Try.func53, Try.ntmps53
  go_wp2_with fail
  refine P1.out.mono ?_; rintro e w1 ⟨rfl, F1, sv1, h1, m1⟩
  have P2 := Lib.hid (push_m h1 x hx hl1)
  have M1 := Lib.hid (M0.out.trans m1)
  clear h1 m1
  go_wp2_with fail
  refine P2.out.mono ?_; rintro e w2 ⟨rfl, F2, sv2, h2, m2⟩
  have P3 := Lib.hid (push_mno h2 x hl2)
  have HR := Lib.hid (PnP.of (s := s) h2 (M1.out.trans m2) rfl rfl rfl rfl)
  clear h2 m2
  go_wp2_with fail
  refine P3.out.mono ?_; rintro e w3 ⟨rfl, rfl⟩
  exact ⟨rfl, rfl, HR.out⟩
theorem carry_3 (h : SM true w B q F cv mv iv sv kv ov s) (k : Int) {x : Int} {t : List Int} (hst : s.st = x :: t) :
    Calls Try.prog 53 #[.pointer (some ⟨q, 0, none⟩), codeV 3 k] w fun e w' => e = .returned (.tuple #[]) ∧ FuP w B q F cv mv iv { s with st := t } w' := by
  have P1 := Lib.hid (pop_m (h.alloc (codeBox 3 k)) hst)
  have M0 := Lib.hid ((Mv.refl w F).alloc (codeBox 3 k))
  simp only [codeV]
  clear h hst
  go_enter Try.func53, Try.ntmps53
  go_wp2_with fail
  refine P1.out.mono ?_; rintro e w1 ⟨rfl, h1⟩
  have HR := Lib.hid (h1.fu w M0.out)
  clear h1
  go_wp2_with fail
  go_end0
  exact ⟨rfl, HR.out⟩
theorem carry_4 (h : SM true w B q F cv mv iv sv kv ov s) (k : Int) {a b : Int} {t : List Int} (hst : s.st = b :: a :: t) :
    Calls Try.prog 53 #[.pointer (some ⟨q, 0, none⟩), codeV 4 k] w fun e w' => e = .returned (.tuple #[]) ∧ FuP w B q F cv mv iv { s with st := a :: b :: t } w' := by
  have hb : I32 b := h.fit.st b (by rw [hst]; simp)
  have ha : I32 a := h.fit.st a (by rw [hst]; simp)
  have hl := h.fit.sl
  have P1 := Lib.hid (pop_m (h.alloc (codeBox 4 k)) hst)
  have M0 := Lib.hid ((Mv.refl w F).alloc (codeBox 4 k))
  rw [hst] at hl
  have hl1 : t.length < 1000 := by simp at hl; omega
  have hl2 : (b :: t).length < 1000 := by simp at hl ⊢; omega
  simp only [codeV]
  clear h hst hl
  go_enter Try.func53, Try.ntmps53
  go_wp2_with fail
  refine P1.out.mono ?_; rintro e w1 ⟨rfl, F1, sv1, h1, m1⟩
  have P2 := Lib.hid (pop_m h1 (x := a) (t := t) rfl)
  have M1 := Lib.hid (M0.out.trans m1)
  clear h1 m1
  go_wp2_with fail
  refine P2.out.mono ?_; rintro e w2 ⟨rfl, F2, sv2, h2, m2⟩
  have P3 := Lib.hid (push_m h2 b hb hl1)
  have M2 := Lib.hid (M1.out.trans m2)
  clear h2 m2
  go_wp2_with fail
  refine P3.out.mono ?_; rintro e w3 ⟨rfl, F3, sv3, h3, m3⟩
  have P4 := Lib.hid (push_m h3 a ha hl2)
  have M3 := Lib.hid (M2.out.trans m3)
  clear h3 m3
  go_wp2_with fail
  refine P4.out.mono ?_; rintro e w4 ⟨rfl, h4⟩
  have HR := Lib.hid (h4.fu w M3.out)
  clear h4
  go_wp2_with fail
  go_end0
  exact ⟨rfl, HR.out⟩
theorem carry_4no (h : SM true w B q F cv mv iv sv kv ov s) (k : Int) {b : Int} (hst : s.st = [b]) :
    Calls Try.prog 53 #[.pointer (some ⟨q, 0, none⟩), codeV 4 k] w fun e w' => e = .panicked faultP ∧ PnP w B q F cv mv kv ov s w' := by
  have P1 := Lib.hid (pop_m (h.alloc (codeBox 4 k)) hst)
  have M0 := Lib.hid ((Mv.refl w F).alloc (codeBox 4 k))
  simp only [codeV]
  clear h hst
  go_enter Try.func53, Try.ntmps53
  go_wp2_with fail
  refine P1.out.mono ?_; rintro e w1 ⟨rfl, F1, sv1, h1, m1⟩
  have P2 := Lib.hid (pop_mno h1 rfl)
  have HR := Lib.hid (PnP.of (s := s) h1 (M0.out.trans m1) rfl rfl rfl rfl)
  clear h1 m1
  go_wp2_with fail
  refine P2.out.mono ?_; rintro e w2 ⟨rfl, rfl⟩
  exact ⟨rfl, rfl, HR.out⟩
end
end Go.Proofs.Ytgkdphnhfjjepaa

/- The program's carry: a place of the frame; a word loaded. -/
namespace Go.Proofs.Ytgkdphnhfjjepaa
open Go.RowKit Go.Waf
set_option maxRecDepth 100000
set_option linter.unusedVariables false

section
variable {w : World} {B q : Nat} {F : Nat → Prop} {cv mv iv sv kv ov : Value} {s : SSt}
set_option maxHeartbeats 1600000 in
theorem carry_5 (h : SM true w B q F cv mv iv sv kv ov s) (k : Int) (hk : I32 k) (hl : s.st.length < 1000) :
    Calls Try.prog 53 #[.pointer (some ⟨q, 0, none⟩), codeV 5 k] w fun e w' => e = .returned (.tuple #[]) ∧ FuP w B q F cv mv iv { s with st := wrap32 (s.fp + k) :: s.st } w' := by
  unfold I32 at hk
  obtain ⟨k0, k1⟩ := hk
  have H := Lib.hid h
  have c4 := h.p4
  have hql := h.lt
  have f0 := h.fit.f0
  have f1 := h.fit.f1
  have ml := h.fit.ml
  have f2 : s.fp ≤ 1048576 := by omega
  obtain ⟨P, hP⟩ : ∃ P, P = s.fp := ⟨_, rfl⟩
  rw [← hP] at c4 f0 f2
  have HP := Lib.hid hP
  simp only [codeV]
  clear h ml f1 hP
  go_enter Try.func53, Try.ntmps53
  go_wp2_with fail
  obtain ⟨W1, hW1⟩ : ∃ W1 : World, W1 = w.alloc (codeBox 5 k) := ⟨_, rfl⟩
  have d4 : W1.cell? ⟨q, 4, none⟩ = some (.int .i64 P) := by rw [hW1]; exact alloc_keep c4
  have d1 : W1.cell? ⟨w.heap.size, 1, none⟩ = some (.int .i32 k) := by rw [hW1]; exact World.cell?_alloc_new w _ _ _
  have hM1 : SM true W1.drew B q F cv mv iv sv kv ov s := by rw [hW1]; exact (H.out.alloc _).drew
  have hm1 : Mv w F F W1.drew := by rw [hW1]; exact ((Mv.refl w F).alloc _).drewN 1
  unfold codeBox at hW1
  rw [← hW1]
  have P1 := Lib.hid (push_m hM1 (wrap32 (P + k)) (wrap32_le _) hl)
  have Hm1 := Lib.hid hm1
  clear hW1 hM1 hm1 c4 hl
  refine wp_region_still_tail 9 (by kernel_rfl) (by kernel_rfl) ?_
  simp only [List.take_succ_cons, List.take_zero, List.drop_succ_cons, List.drop_zero]
  repeat still_step
  refine wpStill_nil ?_
  go_wp2_with fail
  refine P1.out.mono ?_; rintro e w2 ⟨rfl, h2⟩
  have HR := Lib.hid (h2.fu w Hm1.out)
  clear h2
  go_wp2_with fail
  go_end0
  exact ⟨rfl, by have := HR.out; rw [HP.out] at this; exact this⟩
set_option maxHeartbeats 1600000 in
theorem carry_5no (h : SM true w B q F cv mv iv sv kv ov s) (k : Int) (hk : I32 k) (hl : ¬ s.st.length < 1000) :
    Calls Try.prog 53 #[.pointer (some ⟨q, 0, none⟩), codeV 5 k] w fun e w' => e = .panicked faultP ∧ PnP w B q F cv mv kv ov s w' := by
  unfold I32 at hk
  obtain ⟨k0, k1⟩ := hk
  have H := Lib.hid h
  have c4 := h.p4
  have hql := h.lt
  have f0 := h.fit.f0
  have f1 := h.fit.f1
  have ml := h.fit.ml
  have f2 : s.fp ≤ 1048576 := by omega
  generalize s.fp = P at c4 f0 f2
  simp only [codeV]
  clear h ml f1
  go_enter Try.func53, Try.ntmps53
  go_wp2_with fail
  obtain ⟨W1, hW1⟩ : ∃ W1 : World, W1 = w.alloc (codeBox 5 k) := ⟨_, rfl⟩
  have d4 : W1.cell? ⟨q, 4, none⟩ = some (.int .i64 P) := by rw [hW1]; exact alloc_keep c4
  have d1 : W1.cell? ⟨w.heap.size, 1, none⟩ = some (.int .i32 k) := by rw [hW1]; exact World.cell?_alloc_new w _ _ _
  have hM1 : SM true W1.drew B q F cv mv iv sv kv ov s := by rw [hW1]; exact (H.out.alloc _).drew
  have hm1 : Mv w F F W1.drew := by rw [hW1]; exact ((Mv.refl w F).alloc _).drewN 1
  unfold codeBox at hW1
  rw [← hW1]
  have P1 := Lib.hid (push_mno hM1 (wrap32 (P + k)) (by omega))
  have HR := Lib.hid (PnP.of (s := s) hM1 hm1 rfl rfl rfl rfl)
  clear hW1 hM1 hm1 c4 hl
  refine wp_region_still_tail 9 (by kernel_rfl) (by kernel_rfl) ?_
  simp only [List.take_succ_cons, List.take_zero, List.drop_succ_cons, List.drop_zero]
  repeat still_step
  refine wpStill_nil ?_
  go_wp2_with fail
  refine P1.out.mono ?_; rintro e w2 ⟨rfl, rfl⟩
  exact ⟨rfl, rfl, HR.out⟩
/-- A word of the memory, as a cell. -/
theorem SM.word {p : Bool} (h : SM p w B q F cv mv iv sv kv ov s) : ∃ g c, mv = .slice (some ⟨g, 0, none⟩) s.mem.length c ∧ s.mem.length ≤ c ∧ c ≤ 9223372036854775807 ∧ F g ∧ g ≠ q ∧ (∀ j, j < s.mem.length → w.cell? ⟨g, j, none⟩ = some (.int .i32 (s.mem.getD j 0))) ∧ ∀ j, w.frozen? ⟨g, j, none⟩ = false := by
  rcases h.mem.2 with ⟨h1, _⟩ | ⟨g, c, cur, h1, hb, hg, hn, hc, hs, ht⟩
  · exact absurd (by rw [h1]; rfl) h.mn
  · refine ⟨g, c, h1, hn, by simpa [maxLen] using hc, (h.fm g (by rw [h1]; rfl)).1, (h.fm g (by rw [h1]; rfl)).2, fun j hj => ?_, fun j => frozen_of_row w g j _ _ hg⟩
    have := h.mem
    rw [h1] at this
    rw [this.cellAt j (by omega), i32s_get _ _ hj]
theorem SM.wordAt {p : Bool} {g n c : Nat} (h : SM p w B q F cv (.slice (some ⟨g, 0, none⟩) n c) iv sv kv ov s) (hn : n = s.mem.length) (j : Nat) (hj : j < s.mem.length) : w.cell? ⟨g, j, none⟩ = some (.int .i32 (s.mem.getD j 0)) := by
  subst hn
  rw [h.mem.cellAt j (by omega), i32s_get _ _ hj]
theorem getD_in {s : SSt} (h : SFit s) (j : Nat) (hj : j < s.mem.length) : I32 (s.mem.getD j 0) := h.mem _ (by rw [List.getD_eq_getElem?_getD, List.getElem?_eq_getElem hj]; simp)
set_option maxHeartbeats 3200000 in
theorem carry_6 (h : SM true w B q F cv mv iv sv kv ov s) (k : Int) {p : Nat} {t : List Int} (hst : s.st = (p : Int) :: t) (hp : p < s.mem.length) :
    Calls Try.prog 53 #[.pointer (some ⟨q, 0, none⟩), codeV 6 k] w fun e w' => e = .returned (.tuple #[]) ∧ FuP w B q F cv mv iv { s with st := s.mem.getD p 0 :: t } w' := by
  have hl := h.fit.sl
  have hpi : I32 p := h.fit.st p (by rw [hst]; exact List.mem_cons_self ..)
  have hxi := getD_in h.fit p hp
  have ml := h.fit.ml
  have HOK := Lib.hid (show okAt s p 1 from ⟨by omega, by omega, by omega⟩)
  rw [hst] at hl
  have hl1 : t.length < 1000 := by simp at hl; omega
  obtain ⟨g, c, rfl, hnc, hc63, hFg, hgq, hcell, hfz⟩ := h.word
  have H := Lib.hid h
  have HST := Lib.hid hst
  obtain ⟨N, hN⟩ : ∃ N, N = s.mem.length := ⟨_, rfl⟩
  have cx := hcell p hp
  obtain ⟨X, hX⟩ : ∃ X, X = s.mem.getD p 0 := ⟨_, rfl⟩
  rw [← hX] at cx hxi ⊢
  have HPL := Lib.hid hp
  rw [← hN] at hp hnc ml
  have HN := Lib.hid hN
  have hql := h.lt
  have hgl := World.block_lt_of_cell? w _ cx
  simp only [codeV]
  have HX := Lib.hid hX
  clear h hst hl hcell hfz hX hN
  go_enter Try.func53, Try.ntmps53
  go_wp2_with fail
  obtain ⟨W1, hW1⟩ : ∃ W1 : World, W1 = w.alloc (codeBox 6 k) := ⟨_, rfl⟩
  have hM1 : SM true W1.drew B q F cv (.slice (some ⟨g, 0, none⟩) N c) iv sv kv ov s := by rw [hW1, HN.out]; exact (H.out.alloc _).drew
  have hm1 : Mv w F F W1.drew := by rw [hW1]; exact ((Mv.refl w F).alloc _).drewN 1
  have d1 : W1.cell? ⟨q, 1, none⟩ = some (.slice (some ⟨g, 0, none⟩) N c) := hM1.p1
  have dx : W1.cell? ⟨g, p, none⟩ = some (.int .i32 X) := by rw [hW1]; exact alloc_keep cx
  unfold codeBox at hW1
  rw [← hW1]
  have P1 := Lib.hid (pop_m hM1 HST.out)
  have Hm1 := Lib.hid hm1
  have q1 : (0 : Int) ≤ (p : Int) := by omega
  have q2 : (p : Int) < (N : Int) := by omega
  clear hW1 hM1 hm1 cx
  go_region_held3 (fun W => W.cell? ⟨q, 1, none⟩ = some (.slice (some ⟨g, 0, none⟩) N c) ∧ W.cell? ⟨g, p, none⟩ = some (.int .i32 X)) (first | (with_reducible exact ⟨e1, e2⟩) | go_keep)
    ((first
      | (go_at_call 63; refine P1.out.mono ?_; rintro e w2 ⟨rfl, F1, sv1, h1, m1⟩; have e1 := h1.p1; have e2 : w2.cell? ⟨g, p, none⟩ = some (.int .i32 X) := by rw [HX.out]; exact h1.wordAt HN.out p HPL.out
         have P2 := Lib.hid (place_m h1 p 1 hpi ⟨by omega, by omega⟩ HOK.out); have H1 := Lib.hid h1; have M1 := Lib.hid (Hm1.out.trans m1); clear h1 m1)
      | (go_at_call 68; refine P2.out.mono ?_; rintro e w3 ⟨rfl, m, hw3⟩; have e1 : w3.cell? ⟨q, 1, none⟩ = some (.slice (some ⟨g, 0, none⟩) N c) := by rw [hw3]; exact H1.out.p1
         have e2 : w3.cell? ⟨g, p, none⟩ = some (.int .i32 X) := by rw [hw3, HX.out]; exact H1.out.wordAt HN.out p HPL.out
         have P3 := Lib.hid (show Calls Try.prog 64 #[.pointer (some ⟨q, 0, none⟩), .int .i32 X] w3 _ from by rw [hw3]; exact push_m (H1.out.drewN m) X hxi hl1)
         have M3 := Lib.hid (M1.out.drewN m)
         clear hw3)
      | (go_at_call 64; refine P3.out.mono ?_; rintro e w4 ⟨rfl, h4⟩
         obtain ⟨F4, sv4, h5, _⟩ := id h4
         have e1 := h5.p1
         have e2 : w4.cell? ⟨g, p, none⟩ = some (.int .i32 X) := by rw [HX.out]; exact h5.wordAt HN.out p HPL.out
         clear h5
         have HR := Lib.hid (h4.fu w M3.out)
         clear h4)))
  all_goals
    go_wp2_with fail
    go_end0
    exact ⟨rfl, by have := HR.out; rw [HN.out] at this; exact this⟩
end
end Go.Proofs.Ytgkdphnhfjjepaa

/- The program's carry: what can't be done in the midst of a region that draws its order (printed by gen_stk17.py). -/
namespace Go.Proofs.Ytgkdphnhfjjepaa
open Go.RowKit Go.Waf
set_option maxRecDepth 100000
set_option linter.unusedVariables false
set_option linter.unusedSimpArgs false

section
variable {w : World} {B q : Nat} {F : Nat → Prop} {cv mv iv sv kv ov : Value} {s : SSt}
set_option maxHeartbeats 3200000 in
theorem carry_6no0 (h : SM true w B q F cv mv iv sv kv ov s) (k : Int) (hst : s.st = []) :
    Calls Try.prog 53 #[.pointer (some ⟨q, 0, none⟩), codeV 6 k] w fun e w' => e = .panicked faultP ∧ PnP w B q F cv mv kv ov s w' := by
  have c1 := h.p1
  have hql := h.lt
  have H := Lib.hid h
  have HST := Lib.hid hst
  simp only [codeV]
  clear h hst
  go_enter Try.func53, Try.ntmps53
  go_wp2_with fail
  obtain ⟨W1, hW1⟩ : ∃ W1 : World, W1 = w.alloc (codeBox 6 k) := ⟨_, rfl⟩
  have hM1 : SM true W1.drew B q F cv mv iv sv kv ov s := by rw [hW1]; exact (H.out.alloc _).drew
  have hm1 : Mv w F F W1.drew := by rw [hW1]; exact ((Mv.refl w F).alloc _).drewN 1
  unfold codeBox at hW1
  rw [← hW1]
  have d1 : W1.drew.cell? ⟨q, 1, none⟩ = some mv := hM1.p1
  have P1 := Lib.hid (pop_mno hM1 HST.out)
  have HR := Lib.hid (PnP.of (s := s) hM1 hm1 rfl rfl rfl rfl)
  clear hW1 hM1 hm1 c1
  refine wp_region_held_drew (S := fun W => W.cell? ⟨q, 1, none⟩ = some mv) (by kernel_rfl) d1 (fun hHeld => ?_)
  (refine wpAnyH_take (i := 0) (oi := ?_) (v := ?_) ?_ (by kernel_rfl) (by kernel_rfl) (by kernel_rfl) ?_ (Or.inl ⟨?_, ?_⟩) hHeld ?_; rotate_left 2; (focus (simp only [List.getElem?_toArray, List.getElem?_cons_succ, List.getElem?_cons_zero] <;> rfl)); (focus exact (fun _ _ _ h => h)); (focus rfl); (focus (intro w hSw; (try dsimp only at hSw); go_simp; try (with_reducible rfl))))
  (try simp only [Act.put, List.setIfInBounds_toArray, List.set_cons_zero, List.set_cons_succ])
  (refine wpAnyH_take (i := 1) (oi := ?_) (v := ?_) ?_ (by kernel_rfl) (by kernel_rfl) (by kernel_rfl) ?_ (Or.inl ⟨?_, ?_⟩) hHeld ?_; rotate_left 2; (focus (simp only [List.getElem?_toArray, List.getElem?_cons_succ, List.getElem?_cons_zero] <;> rfl)); (focus exact (fun _ _ _ h => h)); (focus rfl); (focus (intro w hSw; (try dsimp only at hSw); go_simp; try (with_reducible rfl))))
  (try simp only [Act.put, List.setIfInBounds_toArray, List.set_cons_zero, List.set_cons_succ])
  (refine wpAnyH_take (i := 2) (oi := ?_) (v := ?_) ?_ (by kernel_rfl) (by kernel_rfl) (by kernel_rfl) ?_ (Or.inl ⟨?_, ?_⟩) hHeld ?_; rotate_left 2; (focus (simp only [List.getElem?_toArray, List.getElem?_cons_succ, List.getElem?_cons_zero] <;> rfl)); (focus exact (fun _ _ _ h => h)); (focus rfl); (focus (intro w hSw; (try dsimp only at hSw); go_simp; try (with_reducible rfl))))
  (try simp only [Act.put, List.setIfInBounds_toArray, List.set_cons_zero, List.set_cons_succ])
  (refine wpAnyH_take (i := 3) (oi := ?_) (v := ?_) ?_ (by kernel_rfl) (by kernel_rfl) (by kernel_rfl) ?_ (Or.inl ⟨?_, ?_⟩) hHeld ?_; rotate_left 2; (focus (simp only [List.getElem?_toArray, List.getElem?_cons_succ, List.getElem?_cons_zero] <;> rfl)); (focus exact (fun _ _ _ h => h)); (focus rfl); (focus (intro w hSw; (try dsimp only at hSw); go_simp; try (with_reducible rfl))))
  (try simp only [Act.put, List.setIfInBounds_toArray, List.set_cons_zero, List.set_cons_succ])
  (refine wpAnyH_take (i := 4) (oi := ?_) (v := ?_) ?_ (by kernel_rfl) (by kernel_rfl) (by kernel_rfl) ?_ (Or.inl ⟨?_, ?_⟩) hHeld ?_; rotate_left 2; (focus (simp only [List.getElem?_toArray, List.getElem?_cons_succ, List.getElem?_cons_zero] <;> rfl)); (focus exact (fun _ _ _ h => h)); (focus rfl); (focus (intro w hSw; (try dsimp only at hSw); go_simp; try (with_reducible rfl))))
  (try simp only [Act.put, List.setIfInBounds_toArray, List.set_cons_zero, List.set_cons_succ])
  (refine wpAnyH_take (i := 5) (oi := ?_) (v := ?_) ?_ (by kernel_rfl) (by kernel_rfl) (by kernel_rfl) ?_ (Or.inl ⟨?_, ?_⟩) hHeld ?_; rotate_left 2; (focus (simp only [List.getElem?_toArray, List.getElem?_cons_succ, List.getElem?_cons_zero] <;> rfl)); (focus exact (fun _ _ _ h => h)); (focus rfl); (focus (intro w hSw; (try dsimp only at hSw); go_simp; try (with_reducible rfl))))
  (try simp only [Act.put, List.setIfInBounds_toArray, List.set_cons_zero, List.set_cons_succ])
  (refine wpAnyH_take (i := 6) (oi := ?_) (v := ?_) ?_ (by kernel_rfl) (by kernel_rfl) (by kernel_rfl) ?_ (Or.inl ⟨?_, ?_⟩) hHeld ?_; rotate_left 2; (focus (simp only [List.getElem?_toArray, List.getElem?_cons_succ, List.getElem?_cons_zero] <;> rfl)); (focus exact (fun _ _ _ h => h)); (focus rfl); (focus (intro w hSw; (try dsimp only at hSw); go_simp; try (with_reducible rfl))))
  (try simp only [Act.put, List.setIfInBounds_toArray, List.set_cons_zero, List.set_cons_succ])
  refine wpAnyH_ready (rs := [7]) (by kernel_rfl) (by simp) ?_
  (refine AllReadyH.cons (o := ?_) ?_ (fun K hK => ?_) AllReadyH.nil; rotate_left; (focus (simp only [List.getElem?_toArray, List.getElem?_cons_succ, List.getElem?_cons_zero] <;> rfl)))
  go_simp
  refine P1.out.mono ?_; rintro e w2 ⟨rfl, rfl⟩
  exact ⟨rfl, rfl, HR.out⟩
set_option maxHeartbeats 3200000 in
theorem carry_6no (h : SM true w B q F cv mv iv sv kv ov s) (k : Int) {p : Int} {t : List Int} (hst : s.st = p :: t) (ho : ¬ okAt s p 1) :
    Calls Try.prog 53 #[.pointer (some ⟨q, 0, none⟩), codeV 6 k] w fun e w' => e = .panicked faultP ∧ PnP w B q F cv mv kv ov s w' := by
  have hpi : I32 p := h.fit.st p (by rw [hst]; exact List.mem_cons_self ..)
  have HO := Lib.hid ho
  clear ho
  have c1 := h.p1
  have hql := h.lt
  have H := Lib.hid h
  have HST := Lib.hid hst
  simp only [codeV]
  clear h hst
  go_enter Try.func53, Try.ntmps53
  go_wp2_with fail
  obtain ⟨W1, hW1⟩ : ∃ W1 : World, W1 = w.alloc (codeBox 6 k) := ⟨_, rfl⟩
  have hM1 : SM true W1.drew B q F cv mv iv sv kv ov s := by rw [hW1]; exact (H.out.alloc _).drew
  have hm1 : Mv w F F W1.drew := by rw [hW1]; exact ((Mv.refl w F).alloc _).drewN 1
  unfold codeBox at hW1
  rw [← hW1]
  have d1 : W1.drew.cell? ⟨q, 1, none⟩ = some mv := hM1.p1
  have P1 := Lib.hid (pop_m hM1 HST.out)
  have Hm1 := Lib.hid hm1
  clear hW1 hM1 hm1 c1
  refine wp_region_held_drew (S := fun W => W.cell? ⟨q, 1, none⟩ = some mv) (by kernel_rfl) d1 (fun hHeld => ?_)
  (refine wpAnyH_take (i := 0) (oi := ?_) (v := ?_) ?_ (by kernel_rfl) (by kernel_rfl) (by kernel_rfl) ?_ (Or.inl ⟨?_, ?_⟩) hHeld ?_; rotate_left 2; (focus (simp only [List.getElem?_toArray, List.getElem?_cons_succ, List.getElem?_cons_zero] <;> rfl)); (focus exact (fun _ _ _ h => h)); (focus rfl); (focus (intro w hSw; (try dsimp only at hSw); go_simp; try (with_reducible rfl))))
  (try simp only [Act.put, List.setIfInBounds_toArray, List.set_cons_zero, List.set_cons_succ])
  (refine wpAnyH_take (i := 1) (oi := ?_) (v := ?_) ?_ (by kernel_rfl) (by kernel_rfl) (by kernel_rfl) ?_ (Or.inl ⟨?_, ?_⟩) hHeld ?_; rotate_left 2; (focus (simp only [List.getElem?_toArray, List.getElem?_cons_succ, List.getElem?_cons_zero] <;> rfl)); (focus exact (fun _ _ _ h => h)); (focus rfl); (focus (intro w hSw; (try dsimp only at hSw); go_simp; try (with_reducible rfl))))
  (try simp only [Act.put, List.setIfInBounds_toArray, List.set_cons_zero, List.set_cons_succ])
  (refine wpAnyH_take (i := 2) (oi := ?_) (v := ?_) ?_ (by kernel_rfl) (by kernel_rfl) (by kernel_rfl) ?_ (Or.inl ⟨?_, ?_⟩) hHeld ?_; rotate_left 2; (focus (simp only [List.getElem?_toArray, List.getElem?_cons_succ, List.getElem?_cons_zero] <;> rfl)); (focus exact (fun _ _ _ h => h)); (focus rfl); (focus (intro w hSw; (try dsimp only at hSw); go_simp; try (with_reducible rfl))))
  (try simp only [Act.put, List.setIfInBounds_toArray, List.set_cons_zero, List.set_cons_succ])
  (refine wpAnyH_take (i := 3) (oi := ?_) (v := ?_) ?_ (by kernel_rfl) (by kernel_rfl) (by kernel_rfl) ?_ (Or.inl ⟨?_, ?_⟩) hHeld ?_; rotate_left 2; (focus (simp only [List.getElem?_toArray, List.getElem?_cons_succ, List.getElem?_cons_zero] <;> rfl)); (focus exact (fun _ _ _ h => h)); (focus rfl); (focus (intro w hSw; (try dsimp only at hSw); go_simp; try (with_reducible rfl))))
  (try simp only [Act.put, List.setIfInBounds_toArray, List.set_cons_zero, List.set_cons_succ])
  (refine wpAnyH_take (i := 4) (oi := ?_) (v := ?_) ?_ (by kernel_rfl) (by kernel_rfl) (by kernel_rfl) ?_ (Or.inl ⟨?_, ?_⟩) hHeld ?_; rotate_left 2; (focus (simp only [List.getElem?_toArray, List.getElem?_cons_succ, List.getElem?_cons_zero] <;> rfl)); (focus exact (fun _ _ _ h => h)); (focus rfl); (focus (intro w hSw; (try dsimp only at hSw); go_simp; try (with_reducible rfl))))
  (try simp only [Act.put, List.setIfInBounds_toArray, List.set_cons_zero, List.set_cons_succ])
  (refine wpAnyH_take (i := 5) (oi := ?_) (v := ?_) ?_ (by kernel_rfl) (by kernel_rfl) (by kernel_rfl) ?_ (Or.inl ⟨?_, ?_⟩) hHeld ?_; rotate_left 2; (focus (simp only [List.getElem?_toArray, List.getElem?_cons_succ, List.getElem?_cons_zero] <;> rfl)); (focus exact (fun _ _ _ h => h)); (focus rfl); (focus (intro w hSw; (try dsimp only at hSw); go_simp; try (with_reducible rfl))))
  (try simp only [Act.put, List.setIfInBounds_toArray, List.set_cons_zero, List.set_cons_succ])
  (refine wpAnyH_take (i := 6) (oi := ?_) (v := ?_) ?_ (by kernel_rfl) (by kernel_rfl) (by kernel_rfl) ?_ (Or.inl ⟨?_, ?_⟩) hHeld ?_; rotate_left 2; (focus (simp only [List.getElem?_toArray, List.getElem?_cons_succ, List.getElem?_cons_zero] <;> rfl)); (focus exact (fun _ _ _ h => h)); (focus rfl); (focus (intro w hSw; (try dsimp only at hSw); go_simp; try (with_reducible rfl))))
  (try simp only [Act.put, List.setIfInBounds_toArray, List.set_cons_zero, List.set_cons_succ])
  refine wpAnyH_ready (rs := [7]) (by kernel_rfl) (by simp) ?_
  (refine AllReadyH.cons (o := ?_) ?_ (fun K hK => ?_) AllReadyH.nil; rotate_left; (focus (simp only [List.getElem?_toArray, List.getElem?_cons_succ, List.getElem?_cons_zero] <;> rfl)))
  go_simp
  refine P1.out.mono ?_; rintro e w2 ⟨rfl, F1, sv1, h1, m1⟩
  have e1 := h1.p1
  have P2 := Lib.hid (place_mno h1 p 1 hpi ⟨by omega, by omega⟩ HO.out)
  have HR := Lib.hid (PnP.of (s := s) h1 (Hm1.out.trans m1) rfl rfl rfl rfl)
  clear h1 m1
  try go_wp2_with fail
  refine hK.out _ _ e1 (fun hHeld => ?_)
  clear hK K
  (try simp only [Act.put, List.setIfInBounds_toArray, List.set_cons_zero, List.set_cons_succ])
  refine wpAnyH_ready (rs := [8]) (by kernel_rfl) (by simp) ?_
  (refine AllReadyH.cons (o := ?_) ?_ (fun K hK => ?_) AllReadyH.nil; rotate_left; (focus (simp only [List.getElem?_toArray, List.getElem?_cons_succ, List.getElem?_cons_zero] <;> rfl)))
  go_simp
  refine P2.out.mono ?_; rintro e w3 ⟨rfl, m, hw3⟩
  have HR3 := Lib.hid (HR.out.drewN m)
  rw [← hw3] at HR3
  clear hw3
  exact ⟨rfl, rfl, HR3.out⟩
set_option maxHeartbeats 3200000 in
theorem carry_33no (h : SM true w B q F cv mv iv sv kv ov s) (k : Int) (hst : s.st = []) :
    Calls Try.prog 53 #[.pointer (some ⟨q, 0, none⟩), codeV 33 k] w fun e w' => e = .panicked faultP ∧ PnP w B q F cv mv kv ov s w' := by
  have c1 := h.p8
  have hql := h.lt
  have H := Lib.hid h
  have HST := Lib.hid hst
  simp only [codeV]
  clear h hst
  go_enter Try.func53, Try.ntmps53
  go_wp2_with fail
  obtain ⟨W1, hW1⟩ : ∃ W1 : World, W1 = w.alloc (codeBox 33 k) := ⟨_, rfl⟩
  have hM1 : SM true W1.drew B q F cv mv iv sv kv ov s := by rw [hW1]; exact (H.out.alloc _).drew
  have hm1 : Mv w F F W1.drew := by rw [hW1]; exact ((Mv.refl w F).alloc _).drewN 1
  unfold codeBox at hW1
  rw [← hW1]
  have d1 : W1.drew.cell? ⟨q, 8, none⟩ = some ov := hM1.p8
  have P1 := Lib.hid (pop_mno hM1 HST.out)
  have HR := Lib.hid (PnP.of (s := s) hM1 hm1 rfl rfl rfl rfl)
  clear hW1 hM1 hm1 c1
  refine wp_region_held_drew (S := fun W => W.cell? ⟨q, 8, none⟩ = some ov) (by kernel_rfl) d1 (fun hHeld => ?_)
  (refine wpAnyH_take (i := 0) (oi := ?_) (v := ?_) ?_ (by kernel_rfl) (by kernel_rfl) (by kernel_rfl) ?_ (Or.inl ⟨?_, ?_⟩) hHeld ?_; rotate_left 2; (focus (simp only [List.getElem?_toArray, List.getElem?_cons_succ, List.getElem?_cons_zero] <;> rfl)); (focus exact (fun _ _ _ h => h)); (focus rfl); (focus (intro w hSw; (try dsimp only at hSw); go_simp; try (with_reducible rfl))))
  (try simp only [Act.put, List.setIfInBounds_toArray, List.set_cons_zero, List.set_cons_succ])
  (refine wpAnyH_take (i := 1) (oi := ?_) (v := ?_) ?_ (by kernel_rfl) (by kernel_rfl) (by kernel_rfl) ?_ (Or.inl ⟨?_, ?_⟩) hHeld ?_; rotate_left 2; (focus (simp only [List.getElem?_toArray, List.getElem?_cons_succ, List.getElem?_cons_zero] <;> rfl)); (focus exact (fun _ _ _ h => h)); (focus rfl); (focus (intro w hSw; (try dsimp only at hSw); go_simp; try (with_reducible rfl))))
  (try simp only [Act.put, List.setIfInBounds_toArray, List.set_cons_zero, List.set_cons_succ])
  (refine wpAnyH_take (i := 2) (oi := ?_) (v := ?_) ?_ (by kernel_rfl) (by kernel_rfl) (by kernel_rfl) ?_ (Or.inl ⟨?_, ?_⟩) hHeld ?_; rotate_left 2; (focus (simp only [List.getElem?_toArray, List.getElem?_cons_succ, List.getElem?_cons_zero] <;> rfl)); (focus exact (fun _ _ _ h => h)); (focus rfl); (focus (intro w hSw; (try dsimp only at hSw); go_simp; try (with_reducible rfl))))
  (try simp only [Act.put, List.setIfInBounds_toArray, List.set_cons_zero, List.set_cons_succ])
  (refine wpAnyH_take (i := 3) (oi := ?_) (v := ?_) ?_ (by kernel_rfl) (by kernel_rfl) (by kernel_rfl) ?_ (Or.inl ⟨?_, ?_⟩) hHeld ?_; rotate_left 2; (focus (simp only [List.getElem?_toArray, List.getElem?_cons_succ, List.getElem?_cons_zero] <;> rfl)); (focus exact (fun _ _ _ h => h)); (focus rfl); (focus (intro w hSw; (try dsimp only at hSw); go_simp; try (with_reducible rfl))))
  (try simp only [Act.put, List.setIfInBounds_toArray, List.set_cons_zero, List.set_cons_succ])
  (refine wpAnyH_take (i := 4) (oi := ?_) (v := ?_) ?_ (by kernel_rfl) (by kernel_rfl) (by kernel_rfl) ?_ (Or.inl ⟨?_, ?_⟩) hHeld ?_; rotate_left 2; (focus (simp only [List.getElem?_toArray, List.getElem?_cons_succ, List.getElem?_cons_zero] <;> rfl)); (focus exact (fun _ _ _ h => h)); (focus rfl); (focus (intro w hSw; (try dsimp only at hSw); go_simp; try (with_reducible rfl))))
  (try simp only [Act.put, List.setIfInBounds_toArray, List.set_cons_zero, List.set_cons_succ])
  (refine wpAnyH_take (i := 5) (oi := ?_) (v := ?_) ?_ (by kernel_rfl) (by kernel_rfl) (by kernel_rfl) ?_ (Or.inl ⟨?_, ?_⟩) hHeld ?_; rotate_left 2; (focus (simp only [List.getElem?_toArray, List.getElem?_cons_succ, List.getElem?_cons_zero] <;> rfl)); (focus exact (fun _ _ _ h => h)); (focus rfl); (focus (intro w hSw; (try dsimp only at hSw); go_simp; try (with_reducible rfl))))
  (try simp only [Act.put, List.setIfInBounds_toArray, List.set_cons_zero, List.set_cons_succ])
  refine wpAnyH_ready (rs := [6]) (by kernel_rfl) (by simp) ?_
  (refine AllReadyH.cons (o := ?_) ?_ (fun K hK => ?_) AllReadyH.nil; rotate_left; (focus (simp only [List.getElem?_toArray, List.getElem?_cons_succ, List.getElem?_cons_zero] <;> rfl)))
  go_simp
  refine P1.out.mono ?_; rintro e w2 ⟨rfl, rfl⟩
  exact ⟨rfl, rfl, HR.out⟩
set_option maxHeartbeats 3200000 in
theorem carry_7no1 (h : SM true w B q F cv mv iv sv kv ov s) (k : Int) {x : Int} (hst : s.st = [x]) :
    Calls Try.prog 53 #[.pointer (some ⟨q, 0, none⟩), codeV 7 k] w fun e w' => e = .panicked faultP ∧ PnP w B q F cv mv kv ov s w' := by
  have c1 := h.p1
  have hql := h.lt
  have P0 := Lib.hid (pop_m (h.alloc (codeBox 7 k)) hst)
  have M0 := Lib.hid ((Mv.refl w F).alloc (codeBox 7 k))
  simp only [codeV]
  clear h hst
  go_enter Try.func53, Try.ntmps53
  go_wp2_with fail
  refine P0.out.mono ?_; rintro e W1 ⟨rfl, F1, sv1, h1, m1⟩
  have hM1 := h1.drew
  have hm1 := (M0.out.trans m1).drewN 1
  clear h1 m1
  go_wp2_with fail
  have d1 : W1.drew.cell? ⟨q, 1, none⟩ = some mv := hM1.p1
  have P1 := Lib.hid (pop_mno hM1 rfl)
  have HR := Lib.hid (PnP.of (s := s) hM1 hm1 rfl rfl rfl rfl)
  clear hM1 hm1 c1
  refine wp_region_held_drew (S := fun W => W.cell? ⟨q, 1, none⟩ = some mv) (by kernel_rfl) d1 (fun hHeld => ?_)
  (refine wpAnyH_take (i := 0) (oi := ?_) (v := ?_) ?_ (by kernel_rfl) (by kernel_rfl) (by kernel_rfl) ?_ (Or.inl ⟨?_, ?_⟩) hHeld ?_; rotate_left 2; (focus (simp only [List.getElem?_toArray, List.getElem?_cons_succ, List.getElem?_cons_zero] <;> rfl)); (focus exact (fun _ _ _ h => h)); (focus rfl); (focus (intro w hSw; (try dsimp only at hSw); go_simp; try (with_reducible rfl))))
  (try simp only [Act.put, List.setIfInBounds_toArray, List.set_cons_zero, List.set_cons_succ])
  (refine wpAnyH_take (i := 1) (oi := ?_) (v := ?_) ?_ (by kernel_rfl) (by kernel_rfl) (by kernel_rfl) ?_ (Or.inl ⟨?_, ?_⟩) hHeld ?_; rotate_left 2; (focus (simp only [List.getElem?_toArray, List.getElem?_cons_succ, List.getElem?_cons_zero] <;> rfl)); (focus exact (fun _ _ _ h => h)); (focus rfl); (focus (intro w hSw; (try dsimp only at hSw); go_simp; try (with_reducible rfl))))
  (try simp only [Act.put, List.setIfInBounds_toArray, List.set_cons_zero, List.set_cons_succ])
  (refine wpAnyH_take (i := 2) (oi := ?_) (v := ?_) ?_ (by kernel_rfl) (by kernel_rfl) (by kernel_rfl) ?_ (Or.inl ⟨?_, ?_⟩) hHeld ?_; rotate_left 2; (focus (simp only [List.getElem?_toArray, List.getElem?_cons_succ, List.getElem?_cons_zero] <;> rfl)); (focus exact (fun _ _ _ h => h)); (focus rfl); (focus (intro w hSw; (try dsimp only at hSw); go_simp; try (with_reducible rfl))))
  (try simp only [Act.put, List.setIfInBounds_toArray, List.set_cons_zero, List.set_cons_succ])
  (refine wpAnyH_take (i := 3) (oi := ?_) (v := ?_) ?_ (by kernel_rfl) (by kernel_rfl) (by kernel_rfl) ?_ (Or.inl ⟨?_, ?_⟩) hHeld ?_; rotate_left 2; (focus (simp only [List.getElem?_toArray, List.getElem?_cons_succ, List.getElem?_cons_zero] <;> rfl)); (focus exact (fun _ _ _ h => h)); (focus rfl); (focus (intro w hSw; (try dsimp only at hSw); go_simp; try (with_reducible rfl))))
  (try simp only [Act.put, List.setIfInBounds_toArray, List.set_cons_zero, List.set_cons_succ])
  (refine wpAnyH_take (i := 4) (oi := ?_) (v := ?_) ?_ (by kernel_rfl) (by kernel_rfl) (by kernel_rfl) ?_ (Or.inl ⟨?_, ?_⟩) hHeld ?_; rotate_left 2; (focus (simp only [List.getElem?_toArray, List.getElem?_cons_succ, List.getElem?_cons_zero] <;> rfl)); (focus exact (fun _ _ _ h => h)); (focus rfl); (focus (intro w hSw; (try dsimp only at hSw); go_simp; try (with_reducible rfl))))
  (try simp only [Act.put, List.setIfInBounds_toArray, List.set_cons_zero, List.set_cons_succ])
  (refine wpAnyH_take (i := 5) (oi := ?_) (v := ?_) ?_ (by kernel_rfl) (by kernel_rfl) (by kernel_rfl) ?_ (Or.inl ⟨?_, ?_⟩) hHeld ?_; rotate_left 2; (focus (simp only [List.getElem?_toArray, List.getElem?_cons_succ, List.getElem?_cons_zero] <;> rfl)); (focus exact (fun _ _ _ h => h)); (focus rfl); (focus (intro w hSw; (try dsimp only at hSw); go_simp; try (with_reducible rfl))))
  (try simp only [Act.put, List.setIfInBounds_toArray, List.set_cons_zero, List.set_cons_succ])
  (refine wpAnyH_take (i := 8) (oi := ?_) (v := ?_) ?_ (by kernel_rfl) (by kernel_rfl) (by kernel_rfl) ?_ (Or.inl ⟨?_, ?_⟩) hHeld ?_; rotate_left 2; (focus (simp only [List.getElem?_toArray, List.getElem?_cons_succ, List.getElem?_cons_zero] <;> rfl)); (focus exact (fun _ _ _ h => h)); (focus rfl); (focus (intro w hSw; (try dsimp only at hSw); go_simp; try (with_reducible rfl))))
  (try simp only [Act.put, List.setIfInBounds_toArray, List.set_cons_zero, List.set_cons_succ])
  refine wpAnyH_ready (rs := [6]) (by kernel_rfl) (by simp) ?_
  (refine AllReadyH.cons (o := ?_) ?_ (fun K hK => ?_) AllReadyH.nil; rotate_left; (focus (simp only [List.getElem?_toArray, List.getElem?_cons_succ, List.getElem?_cons_zero] <;> rfl)))
  go_simp
  refine P1.out.mono ?_; rintro e w2 ⟨rfl, rfl⟩
  exact ⟨rfl, rfl, HR.out⟩
set_option maxHeartbeats 3200000 in
theorem carry_7no (h : SM true w B q F cv mv iv sv kv ov s) (k : Int) {x p : Int} {t : List Int} (hst : s.st = x :: p :: t) (ho : ¬ okAt s p 1) :
    Calls Try.prog 53 #[.pointer (some ⟨q, 0, none⟩), codeV 7 k] w fun e w' => e = .panicked faultP ∧ PnP w B q F cv mv kv ov s w' := by
  have hpi : I32 p := h.fit.st p (by rw [hst]; simp)
  have HO := Lib.hid ho
  clear ho
  have c1 := h.p1
  have hql := h.lt
  have P0 := Lib.hid (pop_m (h.alloc (codeBox 7 k)) hst)
  have M0 := Lib.hid ((Mv.refl w F).alloc (codeBox 7 k))
  simp only [codeV]
  clear h hst
  go_enter Try.func53, Try.ntmps53
  go_wp2_with fail
  refine P0.out.mono ?_; rintro e W1 ⟨rfl, F1, sv1, h1, m1⟩
  have hM1 := h1.drew
  have hm1 := (M0.out.trans m1).drewN 1
  clear h1 m1
  go_wp2_with fail
  have d1 : W1.drew.cell? ⟨q, 1, none⟩ = some mv := hM1.p1
  have P1 := Lib.hid (pop_m hM1 (x := p) (t := t) rfl)
  have Hm1 := Lib.hid hm1
  clear hM1 hm1 c1
  refine wp_region_held_drew (S := fun W => W.cell? ⟨q, 1, none⟩ = some mv) (by kernel_rfl) d1 (fun hHeld => ?_)
  (refine wpAnyH_take (i := 0) (oi := ?_) (v := ?_) ?_ (by kernel_rfl) (by kernel_rfl) (by kernel_rfl) ?_ (Or.inl ⟨?_, ?_⟩) hHeld ?_; rotate_left 2; (focus (simp only [List.getElem?_toArray, List.getElem?_cons_succ, List.getElem?_cons_zero] <;> rfl)); (focus exact (fun _ _ _ h => h)); (focus rfl); (focus (intro w hSw; (try dsimp only at hSw); go_simp; try (with_reducible rfl))))
  (try simp only [Act.put, List.setIfInBounds_toArray, List.set_cons_zero, List.set_cons_succ])
  (refine wpAnyH_take (i := 1) (oi := ?_) (v := ?_) ?_ (by kernel_rfl) (by kernel_rfl) (by kernel_rfl) ?_ (Or.inl ⟨?_, ?_⟩) hHeld ?_; rotate_left 2; (focus (simp only [List.getElem?_toArray, List.getElem?_cons_succ, List.getElem?_cons_zero] <;> rfl)); (focus exact (fun _ _ _ h => h)); (focus rfl); (focus (intro w hSw; (try dsimp only at hSw); go_simp; try (with_reducible rfl))))
  (try simp only [Act.put, List.setIfInBounds_toArray, List.set_cons_zero, List.set_cons_succ])
  (refine wpAnyH_take (i := 2) (oi := ?_) (v := ?_) ?_ (by kernel_rfl) (by kernel_rfl) (by kernel_rfl) ?_ (Or.inl ⟨?_, ?_⟩) hHeld ?_; rotate_left 2; (focus (simp only [List.getElem?_toArray, List.getElem?_cons_succ, List.getElem?_cons_zero] <;> rfl)); (focus exact (fun _ _ _ h => h)); (focus rfl); (focus (intro w hSw; (try dsimp only at hSw); go_simp; try (with_reducible rfl))))
  (try simp only [Act.put, List.setIfInBounds_toArray, List.set_cons_zero, List.set_cons_succ])
  (refine wpAnyH_take (i := 3) (oi := ?_) (v := ?_) ?_ (by kernel_rfl) (by kernel_rfl) (by kernel_rfl) ?_ (Or.inl ⟨?_, ?_⟩) hHeld ?_; rotate_left 2; (focus (simp only [List.getElem?_toArray, List.getElem?_cons_succ, List.getElem?_cons_zero] <;> rfl)); (focus exact (fun _ _ _ h => h)); (focus rfl); (focus (intro w hSw; (try dsimp only at hSw); go_simp; try (with_reducible rfl))))
  (try simp only [Act.put, List.setIfInBounds_toArray, List.set_cons_zero, List.set_cons_succ])
  (refine wpAnyH_take (i := 4) (oi := ?_) (v := ?_) ?_ (by kernel_rfl) (by kernel_rfl) (by kernel_rfl) ?_ (Or.inl ⟨?_, ?_⟩) hHeld ?_; rotate_left 2; (focus (simp only [List.getElem?_toArray, List.getElem?_cons_succ, List.getElem?_cons_zero] <;> rfl)); (focus exact (fun _ _ _ h => h)); (focus rfl); (focus (intro w hSw; (try dsimp only at hSw); go_simp; try (with_reducible rfl))))
  (try simp only [Act.put, List.setIfInBounds_toArray, List.set_cons_zero, List.set_cons_succ])
  (refine wpAnyH_take (i := 5) (oi := ?_) (v := ?_) ?_ (by kernel_rfl) (by kernel_rfl) (by kernel_rfl) ?_ (Or.inl ⟨?_, ?_⟩) hHeld ?_; rotate_left 2; (focus (simp only [List.getElem?_toArray, List.getElem?_cons_succ, List.getElem?_cons_zero] <;> rfl)); (focus exact (fun _ _ _ h => h)); (focus rfl); (focus (intro w hSw; (try dsimp only at hSw); go_simp; try (with_reducible rfl))))
  (try simp only [Act.put, List.setIfInBounds_toArray, List.set_cons_zero, List.set_cons_succ])
  (refine wpAnyH_take (i := 8) (oi := ?_) (v := ?_) ?_ (by kernel_rfl) (by kernel_rfl) (by kernel_rfl) ?_ (Or.inl ⟨?_, ?_⟩) hHeld ?_; rotate_left 2; (focus (simp only [List.getElem?_toArray, List.getElem?_cons_succ, List.getElem?_cons_zero] <;> rfl)); (focus exact (fun _ _ _ h => h)); (focus rfl); (focus (intro w hSw; (try dsimp only at hSw); go_simp; try (with_reducible rfl))))
  (try simp only [Act.put, List.setIfInBounds_toArray, List.set_cons_zero, List.set_cons_succ])
  refine wpAnyH_ready (rs := [6]) (by kernel_rfl) (by simp) ?_
  (refine AllReadyH.cons (o := ?_) ?_ (fun K hK => ?_) AllReadyH.nil; rotate_left; (focus (simp only [List.getElem?_toArray, List.getElem?_cons_succ, List.getElem?_cons_zero] <;> rfl)))
  go_simp
  refine P1.out.mono ?_; rintro e w2 ⟨rfl, F2, sv2, h2, m2⟩
  have e1 := h2.p1
  have P2 := Lib.hid (place_mno h2 p 1 hpi ⟨by omega, by omega⟩ HO.out)
  have HR := Lib.hid (PnP.of (s := s) h2 (Hm1.out.trans m2) rfl rfl rfl rfl)
  clear h2 m2
  try go_wp2_with fail
  refine hK.out _ _ e1 (fun hHeld => ?_)
  clear hK K
  (try simp only [Act.put, List.setIfInBounds_toArray, List.set_cons_zero, List.set_cons_succ])
  refine wpAnyH_ready (rs := [7]) (by kernel_rfl) (by simp) ?_
  (refine AllReadyH.cons (o := ?_) ?_ (fun K hK => ?_) AllReadyH.nil; rotate_left; (focus (simp only [List.getElem?_toArray, List.getElem?_cons_succ, List.getElem?_cons_zero] <;> rfl)))
  go_simp
  refine P2.out.mono ?_; rintro e w3 ⟨rfl, m, hw3⟩
  have HR3 := Lib.hid (HR.out.drewN m)
  rw [← hw3] at HR3
  clear hw3
  exact ⟨rfl, rfl, HR3.out⟩
end
end Go.Proofs.Ytgkdphnhfjjepaa

/- The program's carry: the input, the output, a word stored. -/
namespace Go.Proofs.Ytgkdphnhfjjepaa
open Go.RowKit Go.Waf
set_option maxRecDepth 100000
set_option linter.unusedVariables false

section
variable {w : World} {B q : Nat} {F : Nat → Prop} {cv mv iv sv kv ov : Value} {s : SSt}
theorem carry_32 (h : SM true w B q F cv mv iv sv kv ov s) (k : Int) (hl : s.st.length < 1000) :
    Calls Try.prog 53 #[.pointer (some ⟨q, 0, none⟩), codeV 32 k] w fun e w' => e = .returned (.tuple #[]) ∧ FuP w B q F cv mv iv { s with st := tell s.inp.isEmpty :: s.st } w' := by
  obtain ⟨a, c, rfl, _⟩ := rd_shape h.inp
  have c2 := h.p2
  have hql := h.lt
  have P1 := Lib.hid (fun b => truth_m (h.alloc (codeBox 32 k)) b hl)
  have M0 := Lib.hid ((Mv.refl w F).alloc (codeBox 32 k))
  have he : s.inp.isEmpty = (((s.inp.length : Nat) : Int) == 0) := by cases s.inp <;> simp; omega
  rw [he]
  generalize s.inp.length = N at c2 P1 ⊢
  simp only [codeV]
  clear h hl he
  go_enter Try.func53, Try.ntmps53
  go_wp2_with fail
  refine (P1.out _).mono ?_; rintro e w1 ⟨rfl, h1⟩
  have HR := Lib.hid (h1.fu w M0.out)
  clear h1
  go_wp2_with fail
  go_end0
  exact ⟨rfl, HR.out⟩
theorem carry_32no (h : SM true w B q F cv mv iv sv kv ov s) (k : Int) (hl : ¬ s.st.length < 1000) :
    Calls Try.prog 53 #[.pointer (some ⟨q, 0, none⟩), codeV 32 k] w fun e w' => e = .panicked faultP ∧ PnP w B q F cv mv kv ov s w' := by
  obtain ⟨a, c, rfl, _⟩ := rd_shape h.inp
  have c2 := h.p2
  have hql := h.lt
  have P1 := Lib.hid (fun b => truth_mno (h.alloc (codeBox 32 k)) b (by omega))
  have HR := Lib.hid (PnP.of (h.alloc (codeBox 32 k)) ((Mv.refl w F).alloc (codeBox 32 k)) rfl rfl rfl rfl)
  generalize s.inp.length = N at c2 P1 HR
  simp only [codeV]
  clear h hl
  go_enter Try.func53, Try.ntmps53
  go_wp2_with fail
  refine (P1.out _).mono ?_; rintro e w1 ⟨rfl, rfl⟩
  exact ⟨rfl, rfl, HR.out⟩
/-- A byte is read. -/
theorem SM.taken {p : Bool} {b off n c : Nat} {x : Int} {t : List Int} (h : SM p w B q F cv mv (.slice (some ⟨b, off, none⟩) n c) sv kv ov s) (hi : s.inp = x :: t) (hn : n = t.length + 1) {dp : Option Addr} (hdp : (if c = 1 then (some ⟨b, off, none⟩ : Option Addr) else some ⟨b, off + 1, none⟩) = dp) :
    SM p (w.setCell ⟨q, jI p, none⟩ (.slice dp (n - 1) (c - 1))) B q F cv mv (.slice dp (n - 1) (c - 1)) sv kv ov { s with inp := t } := by
  have hr := h.inp
  rw [hi] at hr
  obtain ⟨hl, a', cap, he, h1, h2, h3, h4⟩ := id hr
  have hd := hr
  rw [List.length_cons, ← hn] at hd
  have hdr := Rd.drop (size := 1) 1 (by omega) hd
  have hlen : t.length = n - 1 := by omega
  have hbt : (byt (x :: t)).drop (1 * 1) = byt t := by simp [byt]
  rw [hbt] at hdr
  have hnc : n ≤ c := by injection he with _ e2 e3; rw [List.length_cons] at h1; omega
  have hfit : SFit { s with inp := t } := h.fit.inps (fun y hy => h.fit.inp y (by rw [hi]; exact List.mem_cons_of_mem _ hy)) (by rw [hi]; simp)
  have hob : (Value.slice dp (n - 1) (c - 1)).ownBlock = (Value.slice (some ⟨b, off, none⟩) n c).ownBlock := by
    rw [← hdp]; split <;> rfl
  refine h.newI (l := t) ?_ hob (fun _ => by rw [hi]; simp) hfit
  by_cases hc1 : c = 1
  · rw [if_pos hc1] at hdp
    subst hdp
    have ht : t = [] := List.eq_nil_of_length_eq_zero (by omega)
    subst ht
    refine ⟨by simp [byt], _, _, by rw [← hlen], by simp, by rw [hc1]; simp [maxLen], by simp, fun h0 => by simp at h0⟩
  · rw [if_neg hc1] at hdp
    subst hdp
    rw [hlen]; simpa using hdr
theorem carry_31e (h : SM true w B q F cv mv iv sv kv ov s) (k : Int) (hl : s.st.length < 1000) (hi : s.inp = []) :
    Calls Try.prog 53 #[.pointer (some ⟨q, 0, none⟩), codeV 31 k] w fun e w' => e = .returned (.tuple #[]) ∧ FuP w B q F cv mv iv { s with st := 0 :: s.st } w' := by
  obtain ⟨a, c, rfl, _⟩ := rd_shape h.inp
  have c2 := h.p2
  have hql := h.lt
  have P1 := Lib.hid (push_m (h.alloc (codeBox 31 k)) 0 (by unfold I32; omega) hl)
  have M0 := Lib.hid ((Mv.refl w F).alloc (codeBox 31 k))
  rw [hi] at c2
  simp only [codeV]
  clear h hl hi
  go_enter Try.func53, Try.ntmps53
  go_wp2_with fail
  refine P1.out.mono ?_; rintro e w1 ⟨rfl, h1⟩
  have HR := Lib.hid (h1.fu w M0.out)
  clear h1
  go_wp2_with fail
  go_end0
  exact ⟨rfl, HR.out⟩
theorem carry_31eno (h : SM true w B q F cv mv iv sv kv ov s) (k : Int) (hl : ¬ s.st.length < 1000) (hi : s.inp = []) :
    Calls Try.prog 53 #[.pointer (some ⟨q, 0, none⟩), codeV 31 k] w fun e w' => e = .panicked faultP ∧ PnP w B q F cv mv kv ov s w' := by
  obtain ⟨a, c, rfl, _⟩ := rd_shape h.inp
  have c2 := h.p2
  have hql := h.lt
  have P1 := Lib.hid (push_mno (h.alloc (codeBox 31 k)) 0 (by omega))
  have HR := Lib.hid (PnP.of (h.alloc (codeBox 31 k)) ((Mv.refl w F).alloc (codeBox 31 k)) rfl rfl rfl rfl)
  rw [hi] at c2
  simp only [codeV]
  clear h hl hi
  go_enter Try.func53, Try.ntmps53
  go_wp2_with fail
  refine P1.out.mono ?_; rintro e w1 ⟨rfl, rfl⟩
  exact ⟨rfl, rfl, HR.out⟩
theorem SM.inAt {p : Bool} {x : Int} {t : List Int} (h : SM p w B q F cv mv iv sv kv ov s) (hi : s.inp = x :: t) : ∃ b off c, iv = .slice (some ⟨b, off, none⟩) (t.length + 1) c ∧ t.length + 1 ≤ c ∧ c ≤ 9223372036854775807 ∧ w.cell? ⟨b, off, none⟩ = some (.int .u8 x) := by
  obtain ⟨hl, a, c, rfl, h1, h2, h3, h4⟩ := h.inp
  have hlen : s.inp.length = t.length + 1 := by rw [hi]; rfl
  obtain ⟨b, off, rfl, hc⟩ := h4 (by omega)
  refine ⟨b, off, c, by rw [hlen], by omega, by simpa [maxLen] using h2, ?_⟩
  have := hc 0 (.int .u8 x) (by rw [hi]; rfl)
  simpa using this
set_option maxHeartbeats 1600000 in
theorem carry_31 (h : SM true w B q F cv mv iv sv kv ov s) (k : Int) (hl : s.st.length < 1000) {x : Int} {t : List Int} (hi : s.inp = x :: t) :
    Calls Try.prog 53 #[.pointer (some ⟨q, 0, none⟩), codeV 31 k] w fun e w' => e = .returned (.tuple #[]) ∧ FuP w B q F cv mv iv { s with inp := t, st := x :: s.st } w' := by
  obtain ⟨b, off, c, rfl, hn, hc63, cx⟩ := h.inAt hi
  have c2 := h.p2
  have f2 := h.frozen 2
  have hql := h.lt
  have hbl := World.block_lt_of_cell? w _ cx
  have hxb : Byt x := h.fit.inp x (by rw [hi]; exact List.mem_cons_self ..)
  obtain ⟨dp, hdp⟩ : ∃ dp : Option Addr, (if c = 1 then (some ⟨b, off, none⟩ : Option Addr) else some ⟨b, off + 1, none⟩) = dp := ⟨_, rfl⟩
  have hT := h.taken hi rfl hdp
  have hob : (Value.slice dp (t.length + 1 - 1) (c - 1)).ownBlock = (Value.slice (some ⟨b, off, none⟩) (t.length + 1) c).ownBlock := by rw [← hdp]; split <;> rfl
  unfold Byt at hxb
  obtain ⟨x0, x1⟩ := hxb
  have P1 := Lib.hid (push_m (hT.alloc (codeBox 31 k)) x (by unfold I32; omega) hl)
  have M0 := Lib.hid ((((Mv.refl w F).set h.fq 2 (.slice dp (t.length + 1 - 1) (c - 1)))).alloc (codeBox 31 k))
  have HOB := Lib.hid hob
  have hn1 : (0 : Int) < ((t.length + 1 : Nat) : Int) := by omega
  have hn2 : (1 : Int) ≤ ((t.length + 1 : Nat) : Int) := by omega
  generalize t.length + 1 = N at c2 hn hn1 hn2 P1 M0 HOB ⊢
  have hn3 : 1 ≤ N := by omega
  have hn4 : N ≤ 9223372036854775807 := by omega
  simp only [codeV]
  clear h hl hi hT hob
  go_enter Try.func53, Try.ntmps53
  go_wp2_with fail
  refine P1.out.mono ?_; rintro e w1 ⟨rfl, h1⟩
  have HR := Lib.hid (h1.fu w M0.out)
  clear h1
  go_wp2_with fail
  go_end0
  obtain ⟨F', iv', sv', kv', ov', r1, r2, r3⟩ := HR.out
  exact ⟨rfl, F', iv', sv', kv', ov', r1, r2.trans HOB.out, r3⟩
set_option maxHeartbeats 1600000 in
theorem carry_31no (h : SM true w B q F cv mv iv sv kv ov s) (k : Int) (hl : ¬ s.st.length < 1000) {x : Int} {t : List Int} (hi : s.inp = x :: t) :
    Calls Try.prog 53 #[.pointer (some ⟨q, 0, none⟩), codeV 31 k] w fun e w' => e = .panicked faultP ∧ PnP w B q F cv mv kv ov s w' := by
  obtain ⟨b, off, c, rfl, hn, hc63, cx⟩ := h.inAt hi
  have c2 := h.p2
  have f2 := h.frozen 2
  have hql := h.lt
  have hbl := World.block_lt_of_cell? w _ cx
  have hxb : Byt x := h.fit.inp x (by rw [hi]; exact List.mem_cons_self ..)
  obtain ⟨dp, hdp⟩ : ∃ dp : Option Addr, (if c = 1 then (some ⟨b, off, none⟩ : Option Addr) else some ⟨b, off + 1, none⟩) = dp := ⟨_, rfl⟩
  have hT := h.taken hi rfl hdp
  have hob : (Value.slice dp (t.length + 1 - 1) (c - 1)).ownBlock = (Value.slice (some ⟨b, off, none⟩) (t.length + 1) c).ownBlock := by rw [← hdp]; split <;> rfl
  unfold Byt at hxb
  obtain ⟨x0, x1⟩ := hxb
  have P1 := Lib.hid (push_mno (hT.alloc (codeBox 31 k)) x (by show 1000 ≤ s.st.length; omega))
  have HR := Lib.hid (PnP.of (s := s) (hT.alloc (codeBox 31 k)) ((((Mv.refl w F).set h.fq 2 (.slice dp (t.length + 1 - 1) (c - 1)))).alloc (codeBox 31 k)) rfl rfl rfl rfl)
  have hn1 : (0 : Int) < ((t.length + 1 : Nat) : Int) := by omega
  have hn2 : (1 : Int) ≤ ((t.length + 1 : Nat) : Int) := by omega
  generalize t.length + 1 = N at c2 hn hn1 hn2 P1 HR
  have hn3 : 1 ≤ N := by omega
  have hn4 : N ≤ 9223372036854775807 := by omega
  simp only [codeV]
  clear h hl hi hT hob
  go_enter Try.func53, Try.ntmps53
  go_wp2_with fail
  refine P1.out.mono ?_; rintro e w1 ⟨rfl, rfl⟩
  exact ⟨rfl, rfl, HR.out⟩
end
end Go.Proofs.Ytgkdphnhfjjepaa

/- The program's carry: a word stored, a byte written. -/
namespace Go.Proofs.Ytgkdphnhfjjepaa
open Go.RowKit Go.Waf
set_option maxRecDepth 100000
set_option linter.unusedVariables false

section
variable {w : World} {B q : Nat} {F : Nat → Prop} {cv mv iv sv kv ov : Value} {s : SSt}
theorem splice_one (l : List Int) (j : Nat) (x : Int) (h : j < l.length) : splice l j [x] = l.set j x := by
  unfold splice
  rw [List.set_eq_take_append_cons_drop, if_pos h]; simp
/-- A word is written. -/
theorem SM.store {p : Bool} {g n c : Nat} (h : SM p w B q F cv (.slice (some ⟨g, 0, none⟩) n c) iv sv kv ov s) (hn : n = s.mem.length) (j : Nat) (hj : j < n) (x : Int) (hx : I32 x) :
    SM p (w.setCell ⟨g, j, none⟩ (.int .i32 x)) B q F cv (.slice (some ⟨g, 0, none⟩) n c) iv sv kv ov { s with mem := s.mem.set j x } := by
  subst hn
  have hf := fr_set w g j (.int .i32 x)
  obtain ⟨cur, hg, hl, hnew⟩ := owns_splice h.mem
  have hw : (w.setCell ⟨g, j, none⟩ (.int .i32 x)).heap[g]? = some (.cells (splice cur j [.int .i32 x]).toArray 21 (0, 0)) := by
    have e : splice cur j [.int .i32 x] = cur.set j (.int .i32 x) := by
      unfold splice
      rw [List.set_eq_take_append_cons_drop, if_pos (by omega)]; simp
    rw [heap_set_cells hg, e]
  have hrow := hnew _ j [.int .i32 x] hw (by simp; omega)
  have e2 : splice (i32s s.mem) j [.int .i32 x] = i32s (s.mem.set j x) := by
    rw [← splice_one s.mem j x hj, ← splice_i32s]; rfl
  rw [e2] at hrow
  refine h.newM (hf.mono fun k _ hk => by rw [hk]; rfl) (l := s.mem.set j x) (by rw [List.length_set]; exact hrow) (h.fit.memo (fun y hy => ?_) (List.length_set ..))
  rcases List.mem_or_eq_of_mem_set hy with h1 | h1
  · exact h.fit.mem y h1
  · rw [h1]; exact hx
theorem SM.memFz {p : Bool} {g n c : Nat} (h : SM p w B q F cv (.slice (some ⟨g, 0, none⟩) n c) iv sv kv ov s) (j : Nat) : w.frozen? ⟨g, j, none⟩ = false := by
  rcases h.mem.2 with ⟨h1, _⟩ | ⟨g', c', cur, h1, _, hg, _⟩
  · cases h1
  · cases h1; exact frozen_of_row w g j _ _ hg
theorem far_q {W : World} {g j q i : Nat} {u v : Value} (hne : g ≠ q) (h : W.cell? ⟨q, i, none⟩ = some v) : (W.setCell ⟨g, j, none⟩ u).cell? ⟨q, i, none⟩ = some v := by
  rw [World.cell?_setCell_other _ _ _ _ (by intro h; injection h with h; exact hne h)]; exact h
theorem near_q {W : World} {g j : Nat} {u v : Value} (h : W.cell? ⟨g, j, none⟩ = some v) : ∃ v', (W.setCell ⟨g, j, none⟩ u).cell? ⟨g, j, none⟩ = some v' := by
  obtain ⟨v', hv⟩ := cell?_setCell_some (w := W) (p := ⟨g, j, none⟩) (x := u) (q := ⟨g, j, none⟩) (v := v) h
  exact ⟨v', hv⟩
set_option maxHeartbeats 3200000 in
theorem carry_7 (h : SM true w B q F cv mv iv sv kv ov s) (k : Int) {x : Int} {p : Nat} {t : List Int} (hst : s.st = x :: (p : Int) :: t) (hp : p < s.mem.length) :
    Calls Try.prog 53 #[.pointer (some ⟨q, 0, none⟩), codeV 7 k] w fun e w' => e = .returned (.tuple #[]) ∧ FuP w B q F cv mv iv { s with st := t, mem := s.mem.set p x } w' := by
  have hpi : I32 p := h.fit.st p (by rw [hst]; simp)
  have hxi : I32 x := h.fit.st x (by rw [hst]; simp)
  have ml := h.fit.ml
  have HOK := Lib.hid (show okAt s p 1 from ⟨by omega, by omega, by omega⟩)
  obtain ⟨g, c, rfl, hnc, hc63, hFg, hgq, hcell, hfz⟩ := h.word
  obtain ⟨N, hN⟩ : ∃ N, N = s.mem.length := ⟨_, rfl⟩
  have HPL := Lib.hid hp
  have P0 := Lib.hid (pop_m (h.alloc (codeBox 7 k)) hst)
  have M0 := Lib.hid ((Mv.refl w F).alloc (codeBox 7 k))
  have hql := h.lt
  rw [← hN] at hp hnc ml P0
  have HN := Lib.hid hN
  have q1 : (0 : Int) ≤ (p : Int) := by omega
  have q2 : (p : Int) < (N : Int) := by omega
  simp only [codeV]
  clear h hst hcell hfz hN
  go_enter Try.func53, Try.ntmps53
  go_wp2_with fail
  refine P0.out.mono ?_; rintro e W1 ⟨rfl, F1, sv1, h1, m1⟩
  have hM1 := h1.drew
  have Hm1 := Lib.hid ((M0.out.trans m1).drewN 1)
  have d1 : W1.cell? ⟨q, 1, none⟩ = some (.slice (some ⟨g, 0, none⟩) N c) := h1.p1
  have P1 := Lib.hid (pop_m hM1 (x := (p : Int)) (t := t) rfl)
  clear h1 m1 hM1
  go_wp2_with fail
  go_region_held3 (fun W => W.cell? ⟨q, 1, none⟩ = some (.slice (some ⟨g, 0, none⟩) N c)) (first | (with_reducible exact e1) | (exact far_q hgq e1) | go_keep)
    ((first
      | (go_at_call 63; refine P1.out.mono ?_; rintro e w2 ⟨rfl, F2, sv2, h2, m2⟩
         have e1 := h2.p1
         have P2 := Lib.hid (place_m h2 p 1 hpi ⟨by omega, by omega⟩ HOK.out)
         have H2 := Lib.hid h2
         have M2 := Lib.hid (Hm1.out.trans m2)
         clear h2 m2)
      | (go_at_call 68; refine P2.out.mono ?_; rintro e w3 ⟨rfl, m, hw3⟩
         have e1 : w3.cell? ⟨q, 1, none⟩ = some (.slice (some ⟨g, 0, none⟩) N c) := by rw [hw3]; exact H2.out.p1
         have e2 : w3.cell? ⟨g, p, none⟩ = some (.int .i32 (s.mem.getD p 0)) := by rw [hw3]; exact H2.out.wordAt HN.out p HPL.out
         have e3 : w3.frozen? ⟨g, p, none⟩ = false := by rw [hw3]; exact H2.out.memFz p
         have HR := Lib.hid (show FuP w B q F cv (.slice (some ⟨g, 0, none⟩) N c) iv { s with st := t, mem := s.mem.set p x } (w3.setCell ⟨g, p, none⟩ (.int .i32 x)) from by rw [hw3]; exact FuP.of (iv := iv) ((H2.out.drewN m).store HN.out p hp x hxi) ((M2.out.drewN m).trans ⟨(Fr.refl F2 _).setCell (p := ⟨g, p, none⟩) (.inr (H2.out.fm g rfl).1) _, fun _ h => .inl h⟩))
         clear hw3)))
  all_goals
    go_wp2_with fail
    go_end0
    exact ⟨rfl, by have := HR.out; rw [HN.out] at this; exact this⟩
end
end Go.Proofs.Ytgkdphnhfjjepaa

/- The program's carry: a byte written. -/
namespace Go.Proofs.Ytgkdphnhfjjepaa
open Go.RowKit Go.Waf
set_option maxRecDepth 100000
set_option linter.unusedVariables false

section
variable {w : World} {B q : Nat} {F : Nat → Prop} {cv mv iv sv kv ov : Value} {s : SSt}
set_option maxHeartbeats 3200000 in
theorem carry_33 (h : SM true w B q F cv mv iv sv kv ov s) (k : Int) (hol : s.out.length ≤ 1000000) {x : Int} {t : List Int} (hst : s.st = x :: t) :
    Calls Try.prog 53 #[.pointer (some ⟨q, 0, none⟩), codeV 33 k] w fun e w' => e = .returned (.tuple #[]) ∧ FuP w B q F cv mv iv { s with st := t, out := s.out ++ [x % 256] } w' := by
  have hql := h.lt
  have H := Lib.hid h
  have HST := Lib.hid hst
  simp only [codeV]
  clear h hst
  go_enter Try.func53, Try.ntmps53
  go_wp2_with fail
  obtain ⟨W1, hW1⟩ : ∃ W1 : World, W1 = w.alloc (codeBox 33 k) := ⟨_, rfl⟩
  have hM1 : SM true W1.drew B q F cv mv iv sv kv ov s := by rw [hW1]; exact (H.out.alloc _).drew
  have hm1 : Mv w F F W1.drew := by rw [hW1]; exact ((Mv.refl w F).alloc _).drewN 1
  unfold codeBox at hW1
  rw [← hW1]
  have lq1 : q < W1.heap.size := hM1.lt
  have ex : IntKind.u8.wrap x = x % 256 := u8_mod x
  have d8 : W1.cell? ⟨q, 8, none⟩ = some ov := hM1.p8
  have P1 := Lib.hid (pop_m hM1 HST.out)
  have Hm1 := Lib.hid hm1
  clear hW1 hM1 hm1
  go_region_law (first
    | (go_simp; go_at_call 63; refine P1.out.mono ?_; rintro e w2 ⟨rfl, F1, sv1, h1, m1⟩
       have e8 := h1.p8
       have z8 := h1.frozen 8
       have l2 := h1.lt
       have H1 := Lib.hid h1
       have M1 := Lib.hid (Hm1.out.trans m1)
       clear h1 m1)
    | (refine step_app_own2 elemB rfl (.tmp 162) (.tmp 166) rfl B ov s.out.length (byt s.out) (by simp [Act.eval]) ((H1.out.out).alloc _) w2.heap.size 0 1 1 (byt [x % 256]) (by simp [Act.eval]) rfl (new_cells w2 (byt [x % 256]) 5) (one_byt _) (by omega) (by simp only [maxLen]; omega) (by omega) (H1.out.alloc _).Bq ?_
       intro v3 w3 ho3 hg3 hloc
       obtain ⟨i8, j8⟩ := (H1.out.alloc (.cells (byt [x % 256]).toArray 5)).later hg3 (H1.out.alloc (.cells (byt [x % 256]).toArray 5)).no 8
       have i8' : w3.cell? ⟨q, 8, none⟩ = some ov := i8
       obtain ⟨g3, c3, rfl, _, _, _, _⟩ := owns_some ho3 (by omega)
       clear i8))
  all_goals
    have hnew : newer (w2.alloc (.cells (byt [x % 256]).toArray 5)) w3 ov (.slice (some ⟨g3, 0, none⟩) (s.out.length + 1) c3) := fun k hk => (hloc k hk).imp id fun h1 => ⟨h1, (ho3.lt k hk).2⟩
    have hfr : Fr (fun k => ov.ownBlock = some k) (w2.alloc (.cells (byt [x % 256]).toArray 5)) w3 := Fr.of_grown hg3 (fun _ h => h)
    have hA := H1.out.alloc (.cells (byt [x % 256]).toArray 5)
    have hfit : SFit { s with st := t, out := s.out ++ [x % 256] } := hA.fit.outs (fun y hy => by
      rcases List.mem_append.1 hy with hy | hy
      · exact H.out.fit.out y hy
      · rw [List.mem_singleton.1 hy]; unfold Byt; omega)
    have hno := hA.newO hfr (l := s.out ++ [x % 256]) (by rw [List.length_append, byt_append]; exact ho3) hnew hfit
    have HR := Lib.hid (FuP.of (iv := iv) hno ((M1.out.alloc (.cells (byt [x % 256]).toArray 5)).trans (fr_also (B := B) (j := 8) hfr (fun k hk => (hA.fo k hk).1) hA.fq hnew)))
    clear hnew hfr hA hfit hno ho3 hg3 hloc
    go_wp2_with fail
    go_end0
    exact ⟨rfl, HR.out⟩
end
end Go.Proofs.Ytgkdphnhfjjepaa

/- The program's carry: words moved. -/
namespace Go.Proofs.Ytgkdphnhfjjepaa
open Go.RowKit Go.Waf
set_option maxRecDepth 100000
set_option linter.unusedVariables false

section
variable {w : World} {B q : Nat} {F : Nat → Prop} {cv mv iv sv kv ov : Value} {s : SSt}
theorem carry_8no0 (h : SM true w B q F cv mv iv sv kv ov s) (k : Int) (hk : I32 k) (hst : s.st = []) :
    Calls Try.prog 53 #[.pointer (some ⟨q, 0, none⟩), codeV 8 k] w fun e w' => e = .panicked faultP ∧ PnP w B q F cv mv kv ov s w' := by
  unfold I32 at hk
  obtain ⟨k0, k1⟩ := hk
  have P1 := Lib.hid (pop_mno (h.alloc (codeBox 8 k)) hst)
  have HR := Lib.hid (PnP.of (h.alloc (codeBox 8 k)) ((Mv.refl w F).alloc (codeBox 8 k)) rfl rfl rfl rfl)
  simp only [codeV]
  clear h hst
  go_enter Try.func53, Try.ntmps53
  go_wp2_with fail
  refine P1.out.mono ?_; rintro e w1 ⟨rfl, rfl⟩
  exact ⟨rfl, rfl, HR.out⟩
theorem carry_8no1 (h : SM true w B q F cv mv iv sv kv ov s) (k : Int) (hk : I32 k) {a : Int} {t : List Int} (hst : s.st = a :: t) (ho : ¬ okAt s a k) :
    Calls Try.prog 53 #[.pointer (some ⟨q, 0, none⟩), codeV 8 k] w fun e w' => e = .panicked faultP ∧ PnP w B q F cv mv kv ov s w' := by
  have HK := Lib.hid hk
  unfold I32 at hk
  obtain ⟨k0, k1⟩ := hk
  have hai : I32 a := h.fit.st a (by rw [hst]; simp)
  have P1 := Lib.hid (pop_m (h.alloc (codeBox 8 k)) hst)
  have M0 := Lib.hid ((Mv.refl w F).alloc (codeBox 8 k))
  have HO := Lib.hid ho
  simp only [codeV]
  clear h hst ho
  go_enter Try.func53, Try.ntmps53
  go_wp2_with fail
  refine P1.out.mono ?_; rintro e w1 ⟨rfl, F1, sv1, h1, m1⟩
  have P2 := Lib.hid (place_mno h1 a k hai HK.out HO.out)
  have HR := Lib.hid (PnP.of (s := s) h1 (M0.out.trans m1) rfl rfl rfl rfl)
  clear h1 m1
  go_wp2_with fail
  refine P2.out.mono ?_; rintro e w2 ⟨rfl, m, hw2⟩
  have HR2 := Lib.hid (HR.out.drewN m)
  rw [← hw2] at HR2
  exact ⟨rfl, rfl, HR2.out⟩
theorem carry_8no2 (h : SM true w B q F cv mv iv sv kv ov s) (k : Int) (hk : I32 k) {a : Int} (hst : s.st = [a]) (ho : okAt s a k) :
    Calls Try.prog 53 #[.pointer (some ⟨q, 0, none⟩), codeV 8 k] w fun e w' => e = .panicked faultP ∧ PnP w B q F cv mv kv ov s w' := by
  have HK := Lib.hid hk
  unfold I32 at hk
  obtain ⟨k0, k1⟩ := hk
  have hai : I32 a := h.fit.st a (by rw [hst]; simp)
  have P1 := Lib.hid (pop_m (h.alloc (codeBox 8 k)) hst)
  have M0 := Lib.hid ((Mv.refl w F).alloc (codeBox 8 k))
  have HO := Lib.hid ho
  simp only [codeV]
  clear h hst ho
  go_enter Try.func53, Try.ntmps53
  go_wp2_with fail
  refine P1.out.mono ?_; rintro e w1 ⟨rfl, F1, sv1, h1, m1⟩
  have P2 := Lib.hid (place_m h1 a k hai HK.out HO.out)
  have H1 := Lib.hid h1
  have M1 := Lib.hid (M0.out.trans m1)
  clear h1 m1
  go_wp2_with fail
  refine P2.out.mono ?_; rintro e w2 ⟨rfl, m, hw2⟩
  have h2 : SM true w2 B q F1 cv mv iv sv1 kv ov { s with st := [] } := by rw [hw2]; exact H1.out.drewN m
  have m2 : Mv w F F1 w2 := by rw [hw2]; exact M1.out.drewN m
  have P3 := Lib.hid (pop_mno h2 rfl)
  have HR := Lib.hid (PnP.of (s := s) h2 m2 rfl rfl rfl rfl)
  clear hw2 h2 m2
  go_wp2_with fail
  refine P3.out.mono ?_; rintro e w3 ⟨rfl, rfl⟩
  exact ⟨rfl, rfl, HR.out⟩
theorem carry_8no3 (h : SM true w B q F cv mv iv sv kv ov s) (k : Int) (hk : I32 k) {a b : Int} {t : List Int} (hst : s.st = a :: b :: t) (ho : okAt s a k) (ho2 : ¬ okAt s b k) :
    Calls Try.prog 53 #[.pointer (some ⟨q, 0, none⟩), codeV 8 k] w fun e w' => e = .panicked faultP ∧ PnP w B q F cv mv kv ov s w' := by
  have HK := Lib.hid hk
  unfold I32 at hk
  obtain ⟨k0, k1⟩ := hk
  have hai : I32 a := h.fit.st a (by rw [hst]; simp)
  have hbi : I32 b := h.fit.st b (by rw [hst]; simp)
  have P1 := Lib.hid (pop_m (h.alloc (codeBox 8 k)) hst)
  have M0 := Lib.hid ((Mv.refl w F).alloc (codeBox 8 k))
  have HO := Lib.hid ho
  have HO2 := Lib.hid ho2
  simp only [codeV]
  clear h hst ho ho2
  go_enter Try.func53, Try.ntmps53
  go_wp2_with fail
  refine P1.out.mono ?_; rintro e w1 ⟨rfl, F1, sv1, h1, m1⟩
  have P2 := Lib.hid (place_m h1 a k hai HK.out HO.out)
  have H1 := Lib.hid h1
  have M1 := Lib.hid (M0.out.trans m1)
  clear h1 m1
  go_wp2_with fail
  refine P2.out.mono ?_; rintro e w2 ⟨rfl, m, hw2⟩
  have h2 : SM true w2 B q F1 cv mv iv sv1 kv ov { s with st := b :: t } := by rw [hw2]; exact H1.out.drewN m
  have M2 := Lib.hid (show Mv w F F1 w2 by rw [hw2]; exact M1.out.drewN m)
  have P3 := Lib.hid (pop_m h2 (x := b) (t := t) rfl)
  clear hw2 h2
  go_wp2_with fail
  refine P3.out.mono ?_; rintro e w3 ⟨rfl, F3, sv3, h3, m3⟩
  have P4 := Lib.hid (place_mno h3 b k hbi HK.out HO2.out)
  have HR := Lib.hid (PnP.of (s := s) h3 (M2.out.trans m3) rfl rfl rfl rfl)
  clear h3 m3
  go_wp2_with fail
  refine P4.out.mono ?_; rintro e w4 ⟨rfl, m', hw4⟩
  have HR2 := Lib.hid (HR.out.drewN m')
  rw [← hw4] at HR2
  exact ⟨rfl, rfl, HR2.out⟩
set_option maxHeartbeats 6400000 in
theorem carry_8 (h : SM true w B q F cv mv iv sv kv ov s) (k a b : Nat) (hk : (k : Int) ≤ 2147483647) {t : List Int} (hst : s.st = (a : Int) :: (b : Int) :: t) (ha : a + k ≤ s.mem.length) (hb : b + k ≤ s.mem.length) :
    Calls Try.prog 53 #[.pointer (some ⟨q, 0, none⟩), codeV 8 k] w fun e w' => e = .returned (.tuple #[]) ∧ FuP w B q F cv mv iv { s with st := t, mem := splice s.mem b ((s.mem.drop a).take k) } w' := by
  have ml := h.fit.ml
  have HK := Lib.hid (show I32 (k : Int) from by unfold I32; omega)
  have hai : I32 (a : Int) := h.fit.st _ (by rw [hst]; simp)
  have hbi : I32 (b : Int) := h.fit.st _ (by rw [hst]; simp)
  have HO := Lib.hid (show okAt s a k from ⟨by omega, by omega, by omega⟩)
  have HO2 := Lib.hid (show okAt s b k from ⟨by omega, by omega, by omega⟩)
  obtain ⟨g, c, rfl, hnc, hc63, hFg, hgq, hcell, hfz⟩ := h.word
  have P1 := Lib.hid (pop_m (h.alloc (codeBox 8 k)) hst)
  have M0 := Lib.hid ((Mv.refl w F).alloc (codeBox 8 k))
  have H := Lib.hid h
  obtain ⟨N, hN⟩ : ∃ N, N = s.mem.length := ⟨_, rfl⟩
  rw [← hN] at ha hb hnc ml P1
  have HN := Lib.hid hN
  have k0 : (0 : Int) ≤ (k : Int) := by omega
  have q1 : (0 : Int) ≤ (a : Int) := by omega
  have q2 : (a : Int) ≤ (a : Int) + k := by omega
  have q3 : (a : Int) + k ≤ (c : Int) := by omega
  have q4 : a + k ≤ c := by omega
  have q5 : a ≤ c := by omega
  have q6 : ((a : Int) + k).toNat - a = k := by omega
  have r1 : (0 : Int) ≤ (b : Int) := by omega
  have r2 : (b : Int) ≤ (b : Int) + k := by omega
  have r3 : (b : Int) + k ≤ (c : Int) := by omega
  have r4 : b + k ≤ c := by omega
  have r5 : b ≤ c := by omega
  have r6 : ((b : Int) + k).toNat - b = k := by omega
  have e1 : IntKind.i64.wrap ((a : Int) + k) = a + k := IntWalk.i64_in _ (by omega)
  have e2 : IntKind.i64.wrap ((b : Int) + k) = b + k := IntWalk.i64_in _ (by omega)
  obtain ⟨D, hD⟩ : ∃ D : Nat → Option Addr, ∀ i, (if c = i then (some ⟨g, 0, none⟩ : Option Addr) else some ⟨g, i, none⟩) = D i := ⟨_, fun _ => rfl⟩
  have HD := Lib.hid hD
  simp only [codeV]
  clear h hst hcell hfz hN
  go_enter Try.func53, Try.ntmps53
  go_wp2_with fail
  refine P1.out.mono ?_; rintro e w1 ⟨rfl, F1, sv1, h1, m1⟩
  have P2 := Lib.hid (place_m h1 a k hai HK.out HO.out)
  have H1 := Lib.hid h1
  have M1 := Lib.hid (M0.out.trans m1)
  clear h1 m1
  go_wp2_with fail
  refine P2.out.mono ?_; rintro e w2 ⟨rfl, m, hw2⟩
  have h2 : SM true w2 B q F1 cv (.slice (some ⟨g, 0, none⟩) N c) iv sv1 kv ov { s with st := (b : Int) :: t } := by rw [hw2]; exact H1.out.drewN m
  have M2 := Lib.hid (show Mv w F F1 w2 by rw [hw2]; exact M1.out.drewN m)
  have P3 := Lib.hid (pop_m h2 (x := (b : Int)) (t := t) rfl)
  clear hw2 h2
  go_wp2_with fail
  refine P3.out.mono ?_; rintro e w3 ⟨rfl, F3, sv3, h3, m3⟩
  have P4 := Lib.hid (place_m h3 b k hbi HK.out HO2.out)
  have H3 := Lib.hid h3
  have M3 := Lib.hid (M2.out.trans m3)
  clear h3 m3
  go_wp2_with fail
  refine P4.out.mono ?_; rintro e w4 ⟨rfl, m', hw4⟩
  have h4 : SM true w4 B q F3 cv (.slice (some ⟨g, 0, none⟩) N c) iv sv3 kv ov { s with st := t } := by rw [hw4]; exact H3.out.drewN m'
  have M4 := Lib.hid (show Mv w F F3 w4 by rw [hw4]; exact M3.out.drewN m')
  have d1 := h4.p1
  have hmem := h4.mem
  have hmem' : w4.ownsRow B 21 1 (.slice (some ⟨g, 0, none⟩) N c) N (i32s s.mem) := by rw [HN.out]; rw [HN.out] at hmem; exact hmem
  obtain ⟨cur, hg, hcl, hnew⟩ := owns_splice hmem'
  have HG := Lib.hid hg
  have HNEW := Lib.hid hnew
  have HCELL := Lib.hid (fun j hj => h4.wordAt HN.out j hj)
  have H4 := Lib.hid h4
  have hcs : (i32s ((s.mem.drop a).take k)).length = k := by rw [i32s_length, List.length_take, List.length_drop, ← HN.out]; omega
  have HCS := Lib.hid hcs
  have HSRC := Lib.hid (show ∀ j v, (i32s ((s.mem.drop a).take k))[j]? = some v → w4.drew.cell? ((⟨g, a, none⟩ : Addr).add j) = some v from fun j v hv => by
    have hj : j < k := by
      rcases Nat.lt_or_ge j k with h | h
      · exact h
      · rw [List.getElem?_eq_none (by rw [hcs]; exact h)] at hv; cases hv
    rw [Addr.add_lit]
    have := h4.wordAt HN.out (a + j) (by show a + j < s.mem.length; rw [← HN.out]; omega)
    show w4.cell? ⟨g, a + j, none⟩ = some v
    rw [this]
    rw [i32s_get _ _ (by rw [i32s_length] at hcs; rw [hcs]; exact hj)] at hv
    cases hv
    congr 2
    simp [hj, List.getElem?_drop])
  have HPOS := Lib.hid (show 0 < (i32s ((s.mem.drop a).take k)).length → D b = some ⟨g, b, none⟩ ∧ ∃ ad, D a = some ad ∧ ∀ j v, (i32s ((s.mem.drop a).take k))[j]? = some v → w4.drew.cell? (ad.add j) = some v from fun h0 => by
    rw [hcs] at h0
    refine ⟨by rw [← HD.out, if_neg (by omega)], ⟨g, a, none⟩, by rw [← HD.out, if_neg (by omega)], HSRC.out⟩)
  have hfitL : b + (i32s ((s.mem.drop a).take k)).length ≤ cur.length := by rw [hcs]; omega
  have HFL := Lib.hid hfitL
  have hqg : q ≠ g := fun e => hgq e.symm
  clear hw4 h4 hmem hmem' hg hnew hcs hfitL
  go_wp2_with fail
  go_region_held3 (fun W => W.cell? ⟨q, 1, none⟩ = some (.slice (some ⟨g, 0, none⟩) N c)) (first | (with_reducible exact e9) | go_keep)
    ((refine step_copy_fr rfl (.tmp 109) (.tmp 118) 33 33 rfl 21 Try.underlying33 (by kernel_rfl) (D b) (D a) k (c - b) k (c - a) (by simp [Act.eval]) (by simp [Act.eval]) g b cur 21 HG.out (i32s ((s.mem.drop a).take k)) (by rw [HCS.out]; exact (Nat.min_self k).symm) HPOS.out HFL.out (one_i32s _) ?_
      intro w5 hb5 hf5
      have e9 : w5.cell? ⟨q, 1, none⟩ = some (.slice (some ⟨g, 0, none⟩) N c) := (hf5.out.cell (p := ⟨q, 1, none⟩) H4.out.lt hqg).trans d1))
  all_goals
    have hrow := HNEW.out w5 b (i32s ((s.mem.drop a).take k)) hb5.out (by rw [HCS.out]; omega)
    rw [splice_i32s] at hrow
    have hlen : (splice s.mem b ((s.mem.drop a).take k)).length = s.mem.length := length_splice _ _ _ (by have := HCS.out; rw [i32s_length] at this; rw [this, ← HN.out]; omega)
    have hall : ∀ x ∈ splice s.mem b ((s.mem.drop a).take k), I32 x := fun x hx => by
      unfold splice at hx
      rcases List.mem_append.1 hx with hx | hx
      · exact H.out.fit.mem x (List.mem_of_mem_take hx)
      rcases List.mem_append.1 hx with hx | hx
      · exact H.out.fit.mem x (List.mem_of_mem_drop (List.mem_of_mem_take hx))
      · exact H.out.fit.mem x (List.mem_of_mem_drop hx)
    have hM5 := H4.out.drew.newM (w1 := w5) (hf5.out.mono fun j _ hj => by rw [hj]; rfl) (l := splice s.mem b ((s.mem.drop a).take k)) (by rw [hlen, ← HN.out]; exact hrow) (H4.out.fit.memo hall hlen)
    have HR := Lib.hid (FuP.of (iv := iv) hM5 ((M4.out.drewN 1).trans ⟨hf5.out.mono fun j _ hj => by rw [hj]; exact (H4.out.fm g rfl).1, fun _ h => .inl h⟩))
    clear hrow hlen hall hM5 hb5 hf5
    go_wp2_with fail
    go_end0
    exact ⟨rfl, by have := HR.out; rw [HN.out] at this; exact this⟩
end
end Go.Proofs.Ytgkdphnhfjjepaa

/- The program's lead and carry, whatever is asked. -/
namespace Go.Proofs.Ytgkdphnhfjjepaa
open Go.RowKit Go.Waf
set_option maxRecDepth 100000
set_option linter.unusedVariables false

/-- What an instruction comes to: a state, or a fault. -/
def ExP (w : World) (B q : Nat) (F : Nat → Prop) (cv mv iv kv ov : Value) (s : SSt) (o : Option SSt) (e : Ending) (w' : World) : Prop :=
  (∃ s', o = some s' ∧ e = .returned (.tuple #[]) ∧ FuP w B q F cv mv iv s' w') ∨ (o = none ∧ e = .panicked faultP ∧ PnP w B q F cv mv kv ov s w')
theorem splice_flat (l c : List Int) (off : Nat) : splice l off c = l.take off ++ c ++ l.drop (off + c.length) := by unfold splice; rw [List.append_assoc]
section
variable {w : World} {B q : Nat} {F : Nat → Prop} {cv mv iv sv kv ov : Value} {s : SSt}
theorem ex_some {P : Program} {f : FuncId} {args : Array Value} {o : Option SSt} {s' : SSt} (ho : o = some s') (h : Calls P f args w fun e w' => e = .returned (.tuple #[]) ∧ FuP w B q F cv mv iv s' w') : Calls P f args w (ExP w B q F cv mv iv kv ov s o) :=
  h.mono fun e w' ⟨h1, h2⟩ => .inl ⟨s', ho, h1, h2⟩
theorem ex_none {P : Program} {f : FuncId} {args : Array Value} {o : Option SSt} (ho : o = none) (h : Calls P f args w fun e w' => e = .panicked faultP ∧ PnP w B q F cv mv kv ov s w') : Calls P f args w (ExP w B q F cv mv iv kv ov s o) :=
  h.mono fun e w' ⟨h1, h2⟩ => .inr ⟨ho, h1, h2⟩
theorem lead_any (h : SM true w B q F cv mv iv sv kv ov s) (op k : Int) (hk : I32 k) (hp : 0 ≤ s.pc) (ho : (25 ≤ op ∧ op ≤ 30) ∨ op = 0) :
    Calls Try.prog 52 #[.pointer (some ⟨q, 0, none⟩), codeV op k] w (ExP w B q F cv mv iv kv ov s (s.lead op k)) := by
  by_cases h0 : op = 0
  · subst h0; exact ex_some rfl (lead_0 h k hp)
  by_cases h30 : op = 30
  · subst h30
    by_cases hc : 1 ≤ k ∧ k ≤ 15
    · exact ex_some (by simp [SSt.lead, hc]) (lead_30 h k hp hc.1 hc.2)
    · exact ex_none (by simp [SSt.lead]; omega) (lead_30no h k hc hk)
  by_cases h25 : op = 25
  · subst h25; exact ex_some rfl (lead_25 h k hk)
  by_cases h26 : op = 26
  · subst h26
    cases hst : s.st with
    | nil => exact ex_none (by simp [SSt.lead, hst]) (lead_26no h k hk hst)
    | cons x t => exact ex_some (by simp [SSt.lead, hst]) (lead_26 h k hk hst)
  by_cases h27 : op = 27
  · subst h27
    by_cases hc : s.kept.length < 1000
    · exact ex_some (by simp [SSt.lead, hc]) (lead_27 h k hk hc)
    · exact ex_none (by simp [SSt.lead]; omega) (lead_27no h k hc)
  by_cases h28 : op = 28
  · subst h28
    by_cases hc : 0 ≤ k ∧ k ≤ (s.mem.length : Int) - s.top
    · obtain ⟨n, rfl⟩ := Int.eq_ofNat_of_zero_le hc.1
      have ht := h.fit.t0
      refine ex_some ?_ (lead_28 h n hk.2 hc.2)
      have e : (s.top + (n : Int)).toNat = s.top.toNat + n := by omega
      simp only [SSt.lead]
      rw [if_neg (by omega), if_neg (by omega), if_neg (by omega), if_neg (by omega), if_neg (by omega), if_pos trivial, if_pos hc, splice_flat, e]
      simp
    · exact ex_none (by simp only [SSt.lead]; rw [if_neg (by omega), if_neg (by omega), if_neg (by omega), if_neg (by omega), if_neg (by omega), if_pos trivial, if_neg hc]) (lead_28no h k hk hc)
  obtain rfl : op = 29 := by omega
  cases hkt : s.kept with
  | nil => exact ex_none (by simp [SSt.lead, hkt]) (lead_29no h k hkt)
  | cons x t => exact ex_some (by simp [SSt.lead, hkt]) (lead_29 h k hkt)
theorem lay_some {x : Int} (hl : s.st.length < 1000) : s.lay x = some { s with st := x :: s.st } := by unfold SSt.lay; rw [if_pos hl]
theorem lay_none {x : Int} (hl : ¬ s.st.length < 1000) : s.lay x = none := by unfold SSt.lay; rw [if_neg hl]
def isCarry (op : Int) : Prop := op = 1 ∨ op = 2 ∨ op = 3 ∨ op = 4 ∨ op = 5 ∨ op = 6 ∨ op = 7 ∨ op = 8 ∨ op = 31 ∨ op = 32 ∨ op = 33
theorem okAt_nat {p k : Int} (h : okAt s p k) : ∃ a n : Nat, p = a ∧ k = n ∧ a + n ≤ s.mem.length := by
  obtain ⟨h1, h2, h3⟩ := h
  obtain ⟨a, rfl⟩ := Int.eq_ofNat_of_zero_le h1
  obtain ⟨n, rfl⟩ := Int.eq_ofNat_of_zero_le h2
  exact ⟨a, n, rfl, rfl, by omega⟩
theorem carry_any (h : SM true w B q F cv mv iv sv kv ov s) (op k : Int) (hk : I32 k) (hol : s.out.length ≤ 1000000) (ho : isCarry op) :
    Calls Try.prog 53 #[.pointer (some ⟨q, 0, none⟩), codeV op k] w (ExP w B q F cv mv iv kv ov s (s.carry op k)) := by
  rcases ho with rfl | rfl | rfl | rfl | rfl | rfl | rfl | rfl | rfl | rfl | rfl
  · by_cases hl : s.st.length < 1000
    · exact ex_some (lay_some hl) (carry_1 h k hk hl)
    · exact ex_none (lay_none hl) (carry_1no h k hl)
  · cases hst : s.st with
    | nil => exact ex_none (by simp [SSt.carry, hst]) (carry_no0 h 2 k (by simp [takes]) hst)
    | cons x t =>
      by_cases hl : s.st.length < 1000
      · exact ex_some (by show (match s.st with | [] => none | x :: _ => s.lay x) = _; rw [hst]; exact (lay_some hl).trans (by rw [hst])) (carry_2 h k hst hl)
      · exact ex_none (by show (match s.st with | [] => none | x :: _ => s.lay x) = _; rw [hst]; exact lay_none hl) (carry_2no h k hst hl)
  · cases hst : s.st with
    | nil => exact ex_none (by simp [SSt.carry, hst]) (carry_no0 h 3 k (by simp [takes]) hst)
    | cons x t => exact ex_some (by simp [SSt.carry, hst]) (carry_3 h k hst)
  · cases hst : s.st with
    | nil => exact ex_none (by simp [SSt.carry, hst]) (carry_no0 h 4 k (by simp [takes]) hst)
    | cons x t =>
      cases t with
      | nil => exact ex_none (by simp [SSt.carry, hst]) (carry_4no h k hst)
      | cons y t => exact ex_some (by simp [SSt.carry, hst]) (carry_4 h k hst)
  · by_cases hl : s.st.length < 1000
    · exact ex_some (lay_some hl) (carry_5 h k hk hl)
    · exact ex_none (lay_none hl) (carry_5no h k hk hl)
  · cases hst : s.st with
    | nil => exact ex_none (by simp [SSt.carry, hst]) (carry_6no0 h k hst)
    | cons p t =>
      by_cases hc : okAt s p 1
      · obtain ⟨a, n, rfl, hn, hle⟩ := okAt_nat hc
        refine ex_some ?_ (carry_6 h k hst (by omega))
        show (match s.st with | [] => none | p :: t => if okAt s p 1 then some { s with st := s.mem.getD p.toNat 0 :: t } else none) = _
        rw [hst]; simp only; rw [if_pos hc]; rfl
      · refine ex_none ?_ (carry_6no h k hst hc)
        show (match s.st with | [] => none | p :: t => if okAt s p 1 then some { s with st := s.mem.getD p.toNat 0 :: t } else none) = _
        rw [hst]; simp only; rw [if_neg hc]
  · cases hst : s.st with
    | nil => exact ex_none (by simp [SSt.carry, hst]) (carry_no0 h 7 k (by simp [takes]) hst)
    | cons x t =>
      cases t with
      | nil => exact ex_none (by simp [SSt.carry, hst]) (carry_7no1 h k hst)
      | cons p t =>
        by_cases hc : okAt s p 1
        · obtain ⟨a, n, rfl, hn, hle⟩ := okAt_nat hc
          refine ex_some ?_ (carry_7 h k hst (by omega))
          show (match s.st with | x :: p :: t => (if okAt s p 1 then some { s with st := t, mem := s.mem.set p.toNat x } else none) | _ => none) = _
          rw [hst]; simp only; rw [if_pos hc]; rfl
        · refine ex_none ?_ (carry_7no h k hst hc)
          show (match s.st with | x :: p :: t => (if okAt s p 1 then some { s with st := t, mem := s.mem.set p.toNat x } else none) | _ => none) = _
          rw [hst]; simp only; rw [if_neg hc]
  · have hsh : s.carry 8 k = match s.st with | q :: p :: t => (if okAt s q k ∧ okAt s p k then some { s with st := t, mem := s.mem.take p.toNat ++ (s.mem.drop q.toNat).take k.toNat ++ s.mem.drop (p.toNat + k.toNat) } else none) | _ => none := rfl
    rw [hsh]
    cases hst : s.st with
    | nil => exact ex_none rfl (carry_8no0 h k hk hst)
    | cons a t =>
      by_cases hc : okAt s a k
      · cases t with
        | nil => exact ex_none rfl (carry_8no2 h k hk hst hc)
        | cons b t =>
          simp only
          by_cases hc2 : okAt s b k
          · obtain ⟨a, n, rfl, rfl, hle⟩ := okAt_nat hc
            obtain ⟨b, n', rfl, hn, hle2⟩ := okAt_nat hc2
            obtain rfl : n = n' := by omega
            refine ex_some ?_ (carry_8 h n a b hk.2 hst hle hle2)
            rw [if_pos ⟨hc, hc2⟩, splice_flat, List.length_take, List.length_drop, Nat.min_eq_left (by omega)]
            rfl
          · exact ex_none (by rw [if_neg (fun h => hc2 h.2)]) (carry_8no3 h k hk hst hc hc2)
      · refine ex_none ?_ (carry_8no1 h k hk hst hc)
        cases t with
        | nil => rfl
        | cons b t => simp only; rw [if_neg (fun h => hc h.1)]
  · have hsh : s.carry 31 k = ({ s with inp := s.inp.tail }).lay (s.inp.headD 0) := rfl
    rw [hsh]
    cases hi : s.inp with
    | nil =>
      by_cases hl : s.st.length < 1000
      · refine ex_some ?_ (carry_31e h k hl hi)
        unfold SSt.lay; rw [if_pos hl]
        show some { s with inp := [], st := 0 :: s.st } = _
        rw [← hi]
      · exact ex_none (by unfold SSt.lay; rw [if_neg hl]) (carry_31eno h k hl hi)
    | cons x t =>
      by_cases hl : s.st.length < 1000
      · exact ex_some (by unfold SSt.lay; rw [if_pos hl]; rfl) (carry_31 h k hl hi)
      · exact ex_none (by unfold SSt.lay; rw [if_neg hl]) (carry_31no h k hl hi)
  · by_cases hl : s.st.length < 1000
    · exact ex_some (lay_some hl) (carry_32 h k hl)
    · exact ex_none (lay_none hl) (carry_32no h k hl)
  · cases hst : s.st with
    | nil => exact ex_none (by simp [SSt.carry, hst]) (carry_33no h k hst)
    | cons x t => exact ex_some (by simp [SSt.carry, hst]) (carry_33 h k hol hst)
end
end Go.Proofs.Ytgkdphnhfjjepaa

/- The program's try: the deferred closure. -/
namespace Go.Proofs.Ytgkdphnhfjjepaa
open Go.RowKit Go.Waf
set_option maxRecDepth 100000
set_option linter.unusedVariables false
set_option linter.unusedSimpArgs false

theorem try1_idle (p : Addr) (w : World) :
    CallsD Try.prog 48 #[.pointer (some p)] .returning w fun e u' w' => e = .returned (.tuple #[]) ∧ u' = .returning ∧ w' = w := by
  refine callsD_of_wpS Try.func48 rfl fun c₀ cs hu => ?_
  apply wpS_seq
  apply wpS_region
  simp [wpOpsS, go_sem, recoverD, hu, Try.ntmps48, Exit.thenS]
  refine wpS_of_wp ?_
  simp only [List.size_toArray, List.length_cons, List.length_nil, Nat.reduceAdd, Nat.reduceSub, Array.replicate_succ, Array.replicate_zero, List.push_toArray, List.append_toArray, List.nil_append, List.cons_append, List.setIfInBounds_toArray, List.set_cons_zero, List.set_cons_succ]
  go_wp2_with fail
  cases c₀
  simp_all [bodyPostS, results, Try.results48]
theorem try1_panic (b : Nat) (v : Value) (w : World) (hc : w.cell? ⟨b, 0, none⟩ = some v) (hz : w.frozen? ⟨b, 0, none⟩ = false) :
    CallsD Try.prog 48 #[.pointer (some ⟨b, 0, none⟩)] (.panicking faultP) w fun e u' w' =>
      e = .returned (.tuple #[]) ∧ u' = .panicking [{ v := .iface 84 (.agg #[]), recovered := true }] ∧ w' = (w.setCell ⟨b, 0, none⟩ (.bool false)).alloc (.cells #[] 84) := by
  have hbl := World.block_lt_of_cell? w _ hc
  have hta : ∀ w, (Instr.typeAssert (.iface 84 (.agg #[])) 20 84 true).run Try.prog w = .ok (.tuple #[.agg #[], .bool true]) w := fun _ => by kernel_rfl
  refine callsD_of_wpS Try.func48 rfl fun c₀ cs hu => ?_
  apply wpS_seq
  apply wpS_region
  simp [wpOpsS, go_sem, recoverD, hu, Try.ntmps48, Exit.thenS, faultP]
  refine wpS_of_wp ?_
  simp only [List.size_toArray, List.length_cons, List.length_nil, Nat.reduceAdd, Nat.reduceSub, Array.replicate_succ, Array.replicate_zero, List.push_toArray, List.append_toArray, List.nil_append, List.cons_append, List.setIfInBounds_toArray, List.set_cons_zero, List.set_cons_succ]
  go_wp2_with fail
  cases c₀
  simp_all [bodyPostS, results, Try.results48]
end Go.Proofs.Ytgkdphnhfjjepaa
