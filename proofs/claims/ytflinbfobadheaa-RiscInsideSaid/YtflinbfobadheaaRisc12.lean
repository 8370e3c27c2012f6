/- The contracts of move and of the reference's memory. -/
import Derived.Test.YtflinbfobadheaaRisc11
import Derived.Deep.RegionLaw
import Derived.BigRegion
import Derived.Deep.RegionLawGrows
namespace Go.Proofs.Ytflinbfobadheaa
open Go.RowKit Go.Waf
set_option maxRecDepth 100000
set_option linter.unusedVariables false

theorem elemB : Elem Try.prog 22 5 1 1 := Elem.mk' (z := .int .u8 0) Try.underlying22 (by kernel_rfl) rfl (by decide)
/-- append onto a slice of the call's own, as one step of a region that draws its order: where its row lies. -/
theorem step_app_own2 {P : Program} {ops : Array Oper} {o : Oper} {a : Act} {w : World} {K : Act → World → Prop} {Q : Exit → Act → World → Prop} {X : Prop} {t e size bytes : Nat} (E : Elem P t e size bytes) (hgd : o.guard = none) (s x : Operand)
    (ho : o.op = .call { callee := .builtin .append, args := #[s, x], argTypes := #[t, t] }) (base : Nat) (v : Value) (n : Nat) (xs : List Value) (hs : a.eval s = v) (hown : w.ownsRow base e size v n xs)
    (b off m c : Nat) (news : List Value) (hx : a.eval x = .slice (some ⟨b, off, none⟩) m c) (hl : news.length = m * size) (hcn : ∀ j u, news[j]? = some u → w.cell? ⟨b, off + j, none⟩ = some u) (h1 : ∀ u ∈ news, u.oneCell' = true) (hm : 0 < m) (h63 : n + m ≤ maxLen) (hbytes : (n + m) * bytes ≤ 140737488355328) (hbase : base ≤ w.heap.size)
    (hK : ∀ v' w', w'.ownsRow base e size v' (n + m) (xs ++ news) → w.grownBy w' v.ownBlock → (∀ k, v'.ownBlock = some k → v.ownBlock = some k ∨ w.heap.size ≤ k) → K (a.put o.dst v') w') :
    if Region.wanted o (yielded ops a.tmps) = true then Oper.wp P o a w K Q else X := by
  have hw : Region.wanted o (yielded ops a.tmps) = true := by simp [Region.wanted, hgd]
  obtain ⟨i, z, hi, hz, hsi, hb, hzs⟩ := E.info
  rcases hown.2 with ⟨rfl, rfl⟩ | ⟨g, cap, cur, rfl, hbg, hg, hnc, hcm, hcs, ht⟩
  · rw [if_pos hw]
    have hxs : xs = [] := List.eq_nil_of_length_eq_zero (by simpa using hown.1)
    subst hxs
    refine wp_append_own w s x t ho w.heap.size e i z size bytes E.und hi hz hsi hb hzs E.pos (.slice none 0 0) 0 [] hs (World.ownsRow_nil _ _ _ _) ⟨b, off, none⟩ m c news hx hl (fun j u hu => by rw [Addr.add_lit]; exact hcn j u hu) h1 h63 hbytes (Nat.le_refl _) (fun v' w' h2 h3 _ => hK v' w' (owns_mono h2 hbase) h3 fun k hk => .inr (h2.lt k hk).1)
  · by_cases hroom : n + m ≤ cap
    · rw [if_pos hw]
      obtain ⟨w', hrun, r1, r2⟩ := run_append_fits (P := P) w base t o.type e i size E.und hi hsi g n cap xs hown ⟨b, off, none⟩ m c news hl (fun j u hu => by rw [Addr.add_lit]; exact hcn j u hu) h1 hroom
      unfold Oper.wp
      simp [execOp, ho, resolve, invoke, builtin, hs, hx, hrun, Result.andThen]
      exact hK _ _ r1 r2 fun k hk => .inl hk
    · refine step_append_grows hgd s x t ho e i z size bytes E.und hi hz hsi hb hzs E.pos (some ⟨g, 0, none⟩) n cap xs hs (by simp) hown.1 ?_ ⟨b, off, none⟩ m c news hx hl (fun j u hu => by rw [Addr.add_lit]; exact hcn j u hu) h1 (by omega) h63 hbytes (fun v' w' h2 h3 => hK v' w' (owns_mono h2 hbase) ⟨h3.os, h3.tape, h3.output, h3.size, fun k hk _ => h3.block k hk (by simp)⟩ fun k hk => .inr (h2.lt k hk).1)
      intro bb hbb j u hu
      cases hbb
      exact hown.cells (g := g) rfl j u hu

theorem Rd_at {w : World} {size n cap : Nat} {a : Option Addr} {cs : List Value} (h : Rd w size (.slice a n cap) n cs) (hn : 0 < n) : ∃ b off, a = some ⟨b, off, none⟩ ∧ ∀ j u, cs[j]? = some u → w.cell? ⟨b, off + j, none⟩ = some u := by
  obtain ⟨_, a', cap', he, _, _, _, h4⟩ := h
  cases he
  exact h4 hn
theorem new_cells (w : World) (cs : List Value) (T : TypeId) : ∀ j u, cs[j]? = some u → (w.alloc (.cells cs.toArray T)).cell? ⟨w.heap.size, 0 + j, none⟩ = some u := fun j u hu => by
  rw [World.cell?_alloc_new]; simpa using hu
def MvPost (p : Bool) (w : World) (B q : Nat) (F : Nat → Prop) (cv mv iv : Value) (s : St) (o : Option St) (e : Ending) (w' : World) : Prop :=
  e = .returned (.bool o.isSome) ∧ (∃ F' iv' ov', Mach p w' B q F' cv mv iv' ov' (o.getD s) ∧ (∀ k, F' k → F k ∨ w.heap.size ≤ k) ∧ iv'.ownBlock = iv.ownBlock) ∧ Fr F w w'
section
variable {w : World} {B q : Nat} {F : Nat → Prop} {cv mv iv ov : Value} {s : St}
theorem mv_some {p : Bool} {w' : World} {o : Option St} {s' : St} {F' : Nat → Prop} {iv' ov' : Value} (ho : o = some s') (hM : Mach p w' B q F' cv mv iv' ov' s') (hF' : ∀ k, F' k → F k ∨ w.heap.size ≤ k) (hF : Fr F w w') (hiv : iv'.ownBlock = iv.ownBlock := by rfl) : MvPost p w B q F cv mv iv s o (.returned (.bool true)) w' := by
  subst ho; exact ⟨rfl, ⟨_, _, _, hM, hF', hiv⟩, hF⟩
theorem mv_none {p : Bool} {w' : World} {o : Option St} (ho : o = none) (hM : Mach p w' B q F cv mv iv ov s) (hF : Fr F w w') : MvPost p w B q F cv mv iv s o (.returned (.bool false)) w' := by
  subst ho; exact ⟨rfl, ⟨_, _, _, hM, fun _ h => .inl h, rfl⟩, hF⟩
theorem cells_mem (p : Bool) (s : St) (m : List Int) (cv mv iv ov : Value) : cellsM p { s with mem := m } cv mv iv ov = cellsM p s cv mv iv ov := by cases p <;> rfl
theorem cells_out (p : Bool) (s : St) (m : List Int) (cv mv iv ov : Value) : cellsM p { s with out := m } cv mv iv ov = cellsM p s cv mv iv ov := by cases p <;> rfl
theorem cells_inp (p : Bool) (s : St) (m : List Int) (cv mv iv ov : Value) : cellsM p { s with inp := m } cv mv iv ov = cellsM p s cv mv iv ov := by cases p <;> rfl
/-- A word of the memory is written. -/
theorem Mach.store {p : Bool} {g n cap : Nat} (h : Mach p w B q F cv (.slice (some ⟨g, 0, none⟩) n cap) iv ov s) (hn : n = s.mem.length) (k : Nat) (x : Int) (hx : W32 x) :
    Mach p (w.setCell ⟨g, k, none⟩ (.int .u32 x)) B q F cv (.slice (some ⟨g, 0, none⟩) n cap) iv ov { s with mem := s.mem.set k x } := by
  subst hn
  have hf : Fr (fun j => j = g) w (w.setCell ⟨g, k, none⟩ (.int .u32 x)) := (Fr.refl (fun j => j = g) w).setCell (p := ⟨g, k, none⟩) (.inr rfl) _
  obtain ⟨hFg, hgq⟩ := h.fm g rfl
  have hst := (h.mem.stored k (.int .u32 x)).1
  rw [u32s_set] at hst
  refine ⟨⟨h.fit.rl, h.fit.r, by simpa using h.fit.ml, set_all h.fit.m _ hx, h.fit.i, h.fit.o, h.fit.k, h.fit.kl, h.fit.h, h.fit.p0, h.fit.p1⟩, ?_, Rd_keep h.code hf fun j hj hn e => h.fc j hj hn (by rw [e]; exact hFg), by simpa using hst, Rd_keep h.inp hf fun j hj hn e => h.fi j hj hn (by rw [e]; exact hFg), hf.owns h.out fun j hj e => (h.fo j hj).2.2 (by rw [e]; rfl), h.fq, h.fm, h.fo, fun j hj => ⟨(h.fb j hj).1, Nat.lt_of_lt_of_le (h.fb j hj).2 hf.size⟩, h.fc, h.fi⟩
  have e := cells_mem p s (s.mem.set k x) cv (.slice (some ⟨g, 0, none⟩) s.mem.length cap) iv ov
  rw [e]
  exact blk_set_other h.blk _ _ (fun e => hgq e.symm)
/-- A byte is written out. -/
theorem Mach.push {p : Bool} {w2 : World} {v' : Value} (h : Mach p w B q F cv mv iv ov s) (y : Int) (hy : Byte y) (hg : w.grownBy w2 ov.ownBlock) (ho : w2.ownsRow B 5 1 v' (s.out.length + 1) (byt s.out ++ byt [y]))
    (hloc : ∀ k, v'.ownBlock = some k → ov.ownBlock = some k ∨ w.heap.size ≤ k) (j : Nat) (hj : (cellsM p s cv mv iv ov).set j v' = cellsM p s cv mv iv v') :
    Mach p (w2.setCell ⟨q, j, none⟩ v') B q (fun k => F k ∨ v'.ownBlock = some k) cv mv iv v' { s with out := s.out ++ [y] } := by
  have hql := (h.fb q h.fq).2
  have hq2 : w2.heap[q]? = some (.cells (cellsM p s cv mv iv ov).toArray (typeM p) (0, 0)) := blk_grown h.blk hg fun e => (h.fo q e).2.1 rfl
  have hf1 : Fr (fun k => ov.ownBlock = some k) w w2 := Fr.of_grown hg (fun k hk => hk)
  have hf2 : Fr (fun k => k = q ∨ ov.ownBlock = some k) w (w2.setCell ⟨q, j, none⟩ v') := (hf1.mono (fun _ _ h => .inr h)).setCell (p := ⟨q, j, none⟩) (.inr (.inl rfl)) _
  have hvq : v'.ownBlock ≠ some q := fun e => by
    rcases hloc q e with h1 | h1
    · exact (h.fo q h1).2.1 rfl
    · omega
  have hff : ∀ k, (k = q ∨ ov.ownBlock = some k) → F k := fun k hk => by
    rcases hk with rfl | hk
    · exact h.fq
    · exact (h.fo k hk).1
  refine ⟨⟨h.fit.rl, h.fit.r, h.fit.ml, h.fit.m, h.fit.i, fun x hx => ?_, h.fit.k, h.fit.kl, h.fit.h, h.fit.p0, h.fit.p1⟩, ?_, Rd_keep h.code hf2 fun k hk hn e => h.fc k hk hn (hff k e), hf2.owns h.mem fun k hk e => ?_, Rd_keep h.inp hf2 fun k hk hn e => h.fi k hk hn (hff k e), ?_, .inl h.fq, fun k hk => ⟨.inl (h.fm k hk).1, (h.fm k hk).2⟩, fun k hk => ⟨.inr hk, fun e => hvq (by rw [← e]; exact hk), fun e => ?_⟩, fun k hk => ?_, fun k hk hn e => ?_, fun k hk hn e => ?_⟩
  · rcases List.mem_append.1 hx with h1 | h1
    · exact h.fit.o x h1
    · simp at h1; rw [h1]; exact hy
  · have e := cells_out p s (s.out ++ [y]) cv mv iv v'
    rw [heap_setCell_same w2 q j _ _ _ hq2, e, ← hj]; simp
  · rcases e with rfl | e
    · exact (h.fm _ hk).2 rfl
    · exact (h.fo k e).2.2 hk
  · rw [List.length_append, byt_append]
    exact owns_set_other ho _ _ hvq
  · rcases hloc k hk with h1 | h1
    · exact (h.fo k h1).2.2 e
    · have := (h.fb k (h.fm k e).1).2; omega
  · rcases hk with hk | hk
    · exact ⟨(h.fb k hk).1, Nat.lt_of_lt_of_le (h.fb k hk).2 hf2.size⟩
    · have h2 := ho.lt k hk
      exact ⟨h2.1, by simpa [World.setCell] using h2.2⟩
  · rcases e with e | e
    · exact h.fc k hk hn e
    · rcases hloc k e with h1 | h1
      · exact h.fc k hk hn (h.fo k h1).1
      · obtain ⟨_, a, cap, hv, _, _, _, h4⟩ := h.code
        obtain ⟨b, off, rfl, hc⟩ := h4 hn
        rw [hv] at hk
        simp only [Value.ownBlock, Option.some.injEq] at hk
        have := World.block_lt_of_cell? w ⟨b, off + 0, none⟩ (hc 0 _ (u32s_get _ 0 hn))
        simp only at this; omega
  · rcases e with e | e
    · exact h.fi k hk hn e
    · rcases hloc k e with h1 | h1
      · exact h.fi k hk hn (h.fo k h1).1
      · obtain ⟨_, a, cap, hv, _, _, _, h4⟩ := h.inp
        obtain ⟨b, off, rfl, hc⟩ := h4 hn
        rw [hv] at hk
        simp only [Value.ownBlock, Option.some.injEq] at hk
        have := World.block_lt_of_cell? w ⟨b, off + 0, none⟩ (hc 0 _ (byt_get _ 0 hn))
        simp only at this; omega
theorem Mach.later {p : Bool} {w2 : World} (h : Mach p w B q F cv mv iv ov s) (hg : w.grownBy w2 ov.ownBlock) (j : Nat) : w2.cell? ⟨q, j, none⟩ = (cellsM p s cv mv iv ov)[j]? ∧ w2.frozen? ⟨q, j, none⟩ = false := by
  have hq2 : w2.heap[q]? = some (.cells (cellsM p s cv mv iv ov).toArray (typeM p) (0, 0)) := blk_grown h.blk hg fun e => (h.fo q e).2.1 rfl
  exact ⟨by rw [cell_of_row w2 q j _ _ _ hq2]; simp, frozen_of_row w2 q j _ _ hq2⟩
theorem Mach.pov_later {w2 : World} (h : Mach true w B q F cv mv iv ov s) (hg : w.grownBy w2 ov.ownBlock) : w2.cell? ⟨q, 25, none⟩ = some ov ∧ w2.frozen? ⟨q, 25, none⟩ = false :=
  ⟨((h.later hg 25).1).trans (getP_ov s cv mv iv ov h.fit.rl), (h.later hg 25).2⟩
theorem Mach.rov_later {w2 : World} (h : Mach false w B q F cv mv iv ov s) (hg : w.grownBy w2 ov.ownBlock) : w2.cell? ⟨q, 25, none⟩ = some ov ∧ w2.frozen? ⟨q, 25, none⟩ = false :=
  ⟨((h.later hg 25).1).trans (getR_ov s cv mv iv ov h.fit.rl), (h.later hg 25).2⟩
/-- A byte is read. -/
theorem Mach.take {p : Bool} (h : Mach p w B q F cv mv iv ov s) (iv' : Value) (hr : Rd w 1 iv' s.inp.tail.length (byt s.inp.tail)) (hb : ∀ k, iv'.ownBlock = some k → 0 < s.inp.tail.length → ¬ F k) (j : Nat) (hj : (cellsM p s cv mv iv ov).set j iv' = cellsM p s cv mv iv' ov) :
    Mach p (w.setCell ⟨q, j, none⟩ iv') B q F cv mv iv' ov { s with inp := s.inp.tail } := by
  have hf : Fr (fun k => k = q) w (w.setCell ⟨q, j, none⟩ iv') := (Fr.refl (fun k => k = q) w).setCell (p := ⟨q, j, none⟩) (.inr rfl) _
  refine ⟨⟨h.fit.rl, h.fit.r, h.fit.ml, h.fit.m, fun x hx => h.fit.i x (List.mem_of_mem_tail hx), h.fit.o, h.fit.k, h.fit.kl, h.fit.h, h.fit.p0, h.fit.p1⟩, ?_, Rd_keep h.code hf fun k hk hn e => h.fc k hk hn (by rw [e]; exact h.fq), hf.owns h.mem fun k hk e => (h.fm k hk).2 e, Rd_keep hr hf fun k hk hn e => hb k hk hn (by rw [e]; exact h.fq), hf.owns h.out fun k hk e => (h.fo k hk).2.1 e, h.fq, h.fm, h.fo, fun k hk => ⟨(h.fb k hk).1, Nat.lt_of_lt_of_le (h.fb k hk).2 hf.size⟩, h.fc, hb⟩
  have e := cells_inp p s s.inp.tail cv mv iv' ov
  rw [heap_setCell_same w q j _ _ _ h.blk, e, ← hj]; simp

set_option maxHeartbeats 3200000 in
theorem pmv_byte (h : Mach true w B q F cv mv iv ov s) (u : Bool) (a b imm : Int) (ha : nib a) (hb : nib b) (hi0 : -524288 ≤ imm) (hi1 : imm < 524288) (hol : s.out.length ≤ 1000000)  :
    Calls Try.prog 34 #[.pointer (some ⟨q, 0, none⟩), insV ⟨2, u, true, a, b, 0, 0, imm⟩] w (MvPost true w B q F cv mv iv s (s.move ⟨2, u, true, a, b, 0, 0, imm⟩)) := by
  obtain ⟨an, rfl⟩ := Int.eq_ofNat_of_zero_le ha.1
  obtain ⟨bn, rfl⟩ := Int.eq_ofNat_of_zero_le hb.1
  have han : an < 16 := by have := (show (an : Int) < 16 from ha.2); omega
  have hbn : bn < 16 := by have := (show (bn : Int) < 16 from hb.2); omega
  obtain ⟨p, hp⟩ : ∃ p, p = s.place ⟨2, u, true, an, bn, 0, 0, imm⟩ := ⟨_, rfl⟩
  have hpw : W32 p := by rw [hp]; exact u32_in _
  obtain ⟨X, hX⟩ : ∃ X, s.r.getD bn 0 = X := ⟨_, rfl⟩
  obtain ⟨A, hA⟩ : ∃ A, s.r.getD an 0 = A := ⟨_, rfl⟩
  have hXw : W32 X := by rw [← hX]; exact h.fit.rg bn hb
  have hAw : W32 A := by rw [← hA]; exact h.fit.rg an ha
  have e1 : (X + imm % 4294967296) % 4294967296 = p := by rw [hp, ← hX]; unfold St.place cut32 St.rg; simp
  have e2 : (X + imm) % 4294967296 = p := by rw [hp, ← hX]; unfold St.place cut32 St.rg; simp
  have hml := h.fit.ml
  have ho : s.move ⟨2, u, true, an, bn, 0, 0, imm⟩ = none := by unfold St.move; rw [if_pos rfl]
  have HO := Lib.hid ho
  obtain ⟨p0, p1⟩ := hpw
  clear ho hp
  obtain ⟨hx0, hx1⟩ := hXw
  have cb := h.p_r bn hbn
  rw [hX] at cb
  have hql : q < w.heap.size := (h.fb q h.fq).2
  have H := Lib.hid h
  have HA := Lib.hid hA
  have HAW := Lib.hid hAw
  simp only [insV]
  clear h hX hA hAw ha hb 
  go_enter Try.func34, Try.ntmps34
  go_upto_region 1 with fail
  go_cut [5] (fun y wx => y = .int .u32 p ∧ Mach true wx B q F cv mv iv ov s ∧ Fr F w wx ∧ ∀ j, wx.cell? ⟨w.heap.size, j, none⟩ = (boxOf ⟨2, u, true, an, bn, 0, 0, imm⟩)[j]?)
  case first =>
    go_quiet (fail)
    go_wp2_with fail
    go_meet
    case rel =>
      refine ⟨by first | rw [e1] | rw [e2] | rfl, (H.out.alloc _).drewN _, ((Fr.refl F w).alloc _).drewN _, fun j => ?_⟩
      have ee : ∀ (o : Obj) (m : Nat), ((w.alloc o).drewN m).cell? ⟨w.heap.size, j, none⟩ = (w.alloc o).cell? ⟨w.heap.size, j, none⟩ := fun _ _ => rfl
      rw [ee, World.cell?_alloc_new]; rfl
  case rest =>
    obtain ⟨rfl, hM, hF, hbox⟩ := hcut
    have d1 : wc.cell? ⟨w.heap.size, 1, none⟩ = some (.bool u) := hbox 1
    have d2 : wc.cell? ⟨w.heap.size, 2, none⟩ = some (.bool true) := hbox 2
    have d3 : wc.cell? ⟨w.heap.size, 3, none⟩ = some (.int .i64 an) := hbox 3
    have hbw := World.block_lt_of_cell? wc _ d1
    have cm := hM.p_mv
    have ci := hM.p_iv
    have fi := hM.frozen 2
    have co := hM.p_ov
    have fo := hM.frozen 25
    have ca := hM.p_r an han
    rw [HA.out] at ca
    obtain ⟨ma, mc, rfl, ml1, ml2, ml3⟩ := owns_shape hM.mem
    unfold maxLen at ml2
    obtain ⟨ML, hML⟩ : ∃ ML, ML = s.mem.length := ⟨_, rfl⟩
    rw [← hML] at cm ml1
    have HML := Lib.hid hML
    have hqc : q < wc.heap.size := (hM.fb q hM.fq).2
    have HM := Lib.hid hM
    have HF := Lib.hid hF
    clear hM hF hbox hML
    by_cases h4 : p % 4 = 0
    · have q4 : (p % 4 == 0) = true := by simp [h4]
      by_cases hl : p / 4 < ML
      all_goals
        clear h4
        go_wp2_with fail
        go_ret
        exact mv_none HO.out HM.out HF.out
    · have q4 : (p % 4 == 0) = false := by simp [h4]
      clear h4
      go_wp2_with fail
      go_ret
      exact mv_none HO.out HM.out HF.out

set_option maxHeartbeats 3200000 in
theorem pmv_none (h : Mach true w B q F cv mv iv ov s) (u : Bool) (a b imm : Int) (ha : nib a) (hb : nib b) (hi0 : -524288 ≤ imm) (hi1 : imm < 524288) (hol : s.out.length ≤ 1000000) (hn : s.place ⟨2, u, false, a, b, 0, 0, imm⟩ ≠ 4294967232) (hn2 : ¬ (s.place ⟨2, u, false, a, b, 0, 0, imm⟩ = 4294967236 ∧ u = false)) (hn3 : s.place ⟨2, u, false, a, b, 0, 0, imm⟩ % 4 ≠ 0 ∨ (s.mem.length : Int) ≤ s.place ⟨2, u, false, a, b, 0, 0, imm⟩ / 4) :
    Calls Try.prog 34 #[.pointer (some ⟨q, 0, none⟩), insV ⟨2, u, false, a, b, 0, 0, imm⟩] w (MvPost true w B q F cv mv iv s (s.move ⟨2, u, false, a, b, 0, 0, imm⟩)) := by
  obtain ⟨an, rfl⟩ := Int.eq_ofNat_of_zero_le ha.1
  obtain ⟨bn, rfl⟩ := Int.eq_ofNat_of_zero_le hb.1
  have han : an < 16 := by have := (show (an : Int) < 16 from ha.2); omega
  have hbn : bn < 16 := by have := (show (bn : Int) < 16 from hb.2); omega
  obtain ⟨p, hp⟩ : ∃ p, p = s.place ⟨2, u, false, an, bn, 0, 0, imm⟩ := ⟨_, rfl⟩
  have hpw : W32 p := by rw [hp]; exact u32_in _
  obtain ⟨X, hX⟩ : ∃ X, s.r.getD bn 0 = X := ⟨_, rfl⟩
  obtain ⟨A, hA⟩ : ∃ A, s.r.getD an 0 = A := ⟨_, rfl⟩
  have hXw : W32 X := by rw [← hX]; exact h.fit.rg bn hb
  have hAw : W32 A := by rw [← hA]; exact h.fit.rg an ha
  have e1 : (X + imm % 4294967296) % 4294967296 = p := by rw [hp, ← hX]; unfold St.place cut32 St.rg; simp
  have e2 : (X + imm) % 4294967296 = p := by rw [hp, ← hX]; unfold St.place cut32 St.rg; simp
  have hml := h.fit.ml
  have ho : s.move ⟨2, u, false, an, bn, 0, 0, imm⟩ = none := by unfold St.move; rw [if_neg (by simp), if_neg hn, if_neg hn2, if_pos hn3]
  have HO := Lib.hid ho
  rw [← hp] at hn hn2 hn3
  obtain ⟨p0, p1⟩ := hpw
  have w64 : (wrap32 p == -64) = false := by simp; unfold wrap32; omega
  have n32 : (p == 4294967232) = false := by simp [hn]
  have w60 : u = false → (wrap32 p == -60) = false ∧ (p == 4294967236) = false := fun hu => by
    have : p ≠ 4294967236 := fun e => hn2 ⟨e, hu⟩
    refine ⟨?_, by simp [this]⟩
    simp; unfold wrap32; omega
  have W60 := Lib.hid w60
  have HN3 := Lib.hid hn3
  clear ho hp hn hn2 hn3 w60
  obtain ⟨hx0, hx1⟩ := hXw
  have cb := h.p_r bn hbn
  rw [hX] at cb
  have hql : q < w.heap.size := (h.fb q h.fq).2
  have H := Lib.hid h
  have HA := Lib.hid hA
  have HAW := Lib.hid hAw
  simp only [insV]
  clear h hX hA hAw ha hb 
  go_enter Try.func34, Try.ntmps34
  go_upto_region 1 with fail
  go_cut [5] (fun y wx => y = .int .u32 p ∧ Mach true wx B q F cv mv iv ov s ∧ Fr F w wx ∧ ∀ j, wx.cell? ⟨w.heap.size, j, none⟩ = (boxOf ⟨2, u, false, an, bn, 0, 0, imm⟩)[j]?)
  case first =>
    go_quiet (fail)
    go_wp2_with fail
    go_meet
    case rel =>
      refine ⟨by first | rw [e1] | rw [e2] | rfl, (H.out.alloc _).drewN _, ((Fr.refl F w).alloc _).drewN _, fun j => ?_⟩
      have ee : ∀ (o : Obj) (m : Nat), ((w.alloc o).drewN m).cell? ⟨w.heap.size, j, none⟩ = (w.alloc o).cell? ⟨w.heap.size, j, none⟩ := fun _ _ => rfl
      rw [ee, World.cell?_alloc_new]; rfl
  case rest =>
    obtain ⟨rfl, hM, hF, hbox⟩ := hcut
    have d1 : wc.cell? ⟨w.heap.size, 1, none⟩ = some (.bool u) := hbox 1
    have d2 : wc.cell? ⟨w.heap.size, 2, none⟩ = some (.bool false) := hbox 2
    have d3 : wc.cell? ⟨w.heap.size, 3, none⟩ = some (.int .i64 an) := hbox 3
    have hbw := World.block_lt_of_cell? wc _ d1
    have cm := hM.p_mv
    have ci := hM.p_iv
    have fi := hM.frozen 2
    have co := hM.p_ov
    have fo := hM.frozen 25
    have ca := hM.p_r an han
    rw [HA.out] at ca
    obtain ⟨ma, mc, rfl, ml1, ml2, ml3⟩ := owns_shape hM.mem
    unfold maxLen at ml2
    obtain ⟨ML, hML⟩ : ∃ ML, ML = s.mem.length := ⟨_, rfl⟩
    rw [← hML] at cm ml1
    have HML := Lib.hid hML
    have hqc : q < wc.heap.size := (hM.fb q hM.fq).2
    have HM := Lib.hid hM
    have HF := Lib.hid hF
    clear hM hF hbox hML
    have hn3 := HN3.out
    rw [← HML.out] at hn3
    cases u with
    | true =>
      obtain ⟨b6, n36⟩ : ∃ b6, (wrap32 p == -60) = b6 := ⟨_, rfl⟩
      by_cases h4 : p % 4 = 0
      · have q4 : (p % 4 == 0) = true := by simp [h4]
        have hl : ¬ p / 4 < (ML : Int) := by omega
        have q5 : (p % 4 != 0) = false := by simp [h4]
        clear h4 hn3
        cases b6
        all_goals
          go_wp2_with fail
          go_ret
          exact mv_none HO.out HM.out HF.out
      · have q4 : (p % 4 == 0) = false := by simp [h4]
        have q5 : (p % 4 != 0) = true := by simp [h4]
        clear h4 hn3
        cases b6
        all_goals
          go_wp2_with fail
          go_ret
          exact mv_none HO.out HM.out HF.out
    | false =>
      obtain ⟨w60, n36⟩ := W60.out rfl
      by_cases h4 : p % 4 = 0
      · have q4 : (p % 4 == 0) = true := by simp [h4]
        have hl : ¬ p / 4 < (ML : Int) := by omega
        have q5 : (p % 4 != 0) = false := by simp [h4]
        clear h4 hn3
        go_wp2_with fail
        all_goals
          go_ret
          exact mv_none HO.out HM.out HF.out
      · have q4 : (p % 4 == 0) = false := by simp [h4]
        have q5 : (p % 4 != 0) = true := by simp [h4]
        clear h4 hn3
        go_wp2_with fail
        all_goals
          go_ret
          exact mv_none HO.out HM.out HF.out

set_option maxHeartbeats 3200000 in
theorem pmv_end (h : Mach true w B q F cv mv iv ov s) (a b imm : Int) (ha : nib a) (hb : nib b) (hi0 : -524288 ≤ imm) (hi1 : imm < 524288) (hol : s.out.length ≤ 1000000) (hq : s.place ⟨2, false, false, a, b, 0, 0, imm⟩ = 4294967236) :
    Calls Try.prog 34 #[.pointer (some ⟨q, 0, none⟩), insV ⟨2, false, false, a, b, 0, 0, imm⟩] w (MvPost true w B q F cv mv iv s (s.move ⟨2, false, false, a, b, 0, 0, imm⟩)) := by
  obtain ⟨an, rfl⟩ := Int.eq_ofNat_of_zero_le ha.1
  obtain ⟨bn, rfl⟩ := Int.eq_ofNat_of_zero_le hb.1
  have han : an < 16 := by have := (show (an : Int) < 16 from ha.2); omega
  have hbn : bn < 16 := by have := (show (bn : Int) < 16 from hb.2); omega
  obtain ⟨p, hp⟩ : ∃ p, p = s.place ⟨2, false, false, an, bn, 0, 0, imm⟩ := ⟨_, rfl⟩
  have hpw : W32 p := by rw [hp]; exact u32_in _
  obtain ⟨X, hX⟩ : ∃ X, s.r.getD bn 0 = X := ⟨_, rfl⟩
  obtain ⟨A, hA⟩ : ∃ A, s.r.getD an 0 = A := ⟨_, rfl⟩
  have hXw : W32 X := by rw [← hX]; exact h.fit.rg bn hb
  have hAw : W32 A := by rw [← hA]; exact h.fit.rg an ha
  have e1 : (X + imm % 4294967296) % 4294967296 = p := by rw [hp, ← hX]; unfold St.place cut32 St.rg; simp
  have e2 : (X + imm) % 4294967296 = p := by rw [hp, ← hX]; unfold St.place cut32 St.rg; simp
  have hml := h.fit.ml
  have ho : s.move ⟨2, false, false, an, bn, 0, 0, imm⟩ = some (s.told an (if s.inp = [] then 1 else 0)) := by unfold St.move; rw [if_neg (by simp), if_neg (by rw [hq]; omega), if_pos ⟨hq, rfl⟩]
  have HO := Lib.hid ho
  rw [← hp] at hq
  obtain ⟨p0, p1⟩ := hpw
  have q4 : (p % 4 == 0) = true := by rw [hq]; rfl
  have w64 : (wrap32 p == -64) = false := by rw [beq_eq_false_iff_ne]; unfold wrap32; omega
  have w60 : (wrap32 p == -60) = true := by rw [beq_iff_eq]; unfold wrap32; omega
  have n32 : (p == 4294967232) = false := by rw [hq]; rfl
  have n36 : (p == 4294967236) = true := by rw [hq]; rfl
  have hbig : (1073741809 : Int) ≤ p / 4 := by rw [hq]; omega
  clear ho hp hq
  obtain ⟨hx0, hx1⟩ := hXw
  have cb := h.p_r bn hbn
  rw [hX] at cb
  have hql : q < w.heap.size := (h.fb q h.fq).2
  have H := Lib.hid h
  have HA := Lib.hid hA
  have HAW := Lib.hid hAw
  simp only [insV]
  clear h hX hA hAw ha hb 
  go_enter Try.func34, Try.ntmps34
  go_upto_region 1 with fail
  go_cut [5] (fun y wx => y = .int .u32 p ∧ Mach true wx B q F cv mv iv ov s ∧ Fr F w wx ∧ ∀ j, wx.cell? ⟨w.heap.size, j, none⟩ = (boxOf ⟨2, false, false, an, bn, 0, 0, imm⟩)[j]?)
  case first =>
    go_quiet (fail)
    go_wp2_with fail
    go_meet
    case rel =>
      refine ⟨by first | rw [e1] | rw [e2] | rfl, (H.out.alloc _).drewN _, ((Fr.refl F w).alloc _).drewN _, fun j => ?_⟩
      have ee : ∀ (o : Obj) (m : Nat), ((w.alloc o).drewN m).cell? ⟨w.heap.size, j, none⟩ = (w.alloc o).cell? ⟨w.heap.size, j, none⟩ := fun _ _ => rfl
      rw [ee, World.cell?_alloc_new]; rfl
  case rest =>
    obtain ⟨rfl, hM, hF, hbox⟩ := hcut
    have d1 : wc.cell? ⟨w.heap.size, 1, none⟩ = some (.bool false) := hbox 1
    have d2 : wc.cell? ⟨w.heap.size, 2, none⟩ = some (.bool false) := hbox 2
    have d3 : wc.cell? ⟨w.heap.size, 3, none⟩ = some (.int .i64 an) := hbox 3
    have hbw := World.block_lt_of_cell? wc _ d1
    have cm := hM.p_mv
    have ci := hM.p_iv
    have fi := hM.frozen 2
    have co := hM.p_ov
    have fo := hM.frozen 25
    have ca := hM.p_r an han
    rw [HA.out] at ca
    obtain ⟨ma, mc, rfl, ml1, ml2, ml3⟩ := owns_shape hM.mem
    unfold maxLen at ml2
    obtain ⟨ML, hML⟩ : ∃ ML, ML = s.mem.length := ⟨_, rfl⟩
    rw [← hML] at cm ml1
    have HML := Lib.hid hML
    have hqc : q < wc.heap.size := (hM.fb q hM.fq).2
    have HM := Lib.hid hM
    have HF := Lib.hid hF
    clear hM hF hbox hML
    have hl : ¬ p / 4 < (ML : Int) := by rw [HML.out]; omega
    obtain ⟨ia, ic, rfl, il1, il2, il3⟩ := rd_shape HM.out.inp
    unfold maxLen at il2
    have ho := HO.out
    cases hinp : s.inp with
    | nil =>
      rw [if_pos hinp] at ho
      have HO2 := Lib.hid ho
      have hzl : s.inp.length = 0 := by rw [hinp]; rfl
      rw [hzl] at ci il1
      have HI := Lib.hid hinp
      clear ho hinp hzl
      go_wp2_with fail
      refine (ptold_any HM.out an han 1 ⟨by omega, by omega⟩).mono ?_; rintro e w5 ⟨rfl, hM5, hF5⟩
      have HR := Lib.hid (mv_some (w := w) (F := F) (s := s) HO2.out hM5 (fun _ h => .inl h) (HF.out.trans hF5 (fun _ _ h => h)))
      clear hM5 hF5
      go_wp2_with fail
      go_ret
      exact HR.out
    | cons y ys =>
      rw [if_neg (by rw [hinp]; simp)] at ho
      have HO2 := Lib.hid ho
      obtain ⟨IL, hIL⟩ : ∃ IL, IL = s.inp.length := ⟨_, rfl⟩
      have hI0 : 0 < IL := by rw [hIL, hinp]; simp
      rw [← hIL] at ci il1
      have q0 : ((IL : Int) == 0) = false := by simp; omega
      clear ho hinp hIL
      go_wp2_with fail
      refine (ptold_any HM.out an han 0 ⟨by omega, by omega⟩).mono ?_; rintro e w5 ⟨rfl, hM5, hF5⟩
      have HR := Lib.hid (mv_some (w := w) (F := F) (s := s) HO2.out hM5 (fun _ h => .inl h) (HF.out.trans hF5 (fun _ _ h => h)))
      clear hM5 hF5
      go_wp2_with fail
      go_ret
      exact HR.out

set_option maxHeartbeats 3200000 in
theorem pmv_store (h : Mach true w B q F cv mv iv ov s) (a b imm : Int) (ha : nib a) (hb : nib b) (hi0 : -524288 ≤ imm) (hi1 : imm < 524288) (hol : s.out.length ≤ 1000000) (h4 : s.place ⟨2, true, false, a, b, 0, 0, imm⟩ % 4 = 0) (hl : s.place ⟨2, true, false, a, b, 0, 0, imm⟩ / 4 < (s.mem.length : Int)) :
    Calls Try.prog 34 #[.pointer (some ⟨q, 0, none⟩), insV ⟨2, true, false, a, b, 0, 0, imm⟩] w (MvPost true w B q F cv mv iv s (s.move ⟨2, true, false, a, b, 0, 0, imm⟩)) := by
  obtain ⟨an, rfl⟩ := Int.eq_ofNat_of_zero_le ha.1
  obtain ⟨bn, rfl⟩ := Int.eq_ofNat_of_zero_le hb.1
  have han : an < 16 := by have := (show (an : Int) < 16 from ha.2); omega
  have hbn : bn < 16 := by have := (show (bn : Int) < 16 from hb.2); omega
  obtain ⟨p, hp⟩ : ∃ p, p = s.place ⟨2, true, false, an, bn, 0, 0, imm⟩ := ⟨_, rfl⟩
  have hpw : W32 p := by rw [hp]; exact u32_in _
  obtain ⟨X, hX⟩ : ∃ X, s.r.getD bn 0 = X := ⟨_, rfl⟩
  obtain ⟨A, hA⟩ : ∃ A, s.r.getD an 0 = A := ⟨_, rfl⟩
  have hXw : W32 X := by rw [← hX]; exact h.fit.rg bn hb
  have hAw : W32 A := by rw [← hA]; exact h.fit.rg an ha
  have e1 : (X + imm % 4294967296) % 4294967296 = p := by rw [hp, ← hX]; unfold St.place cut32 St.rg; simp
  have e2 : (X + imm) % 4294967296 = p := by rw [hp, ← hX]; unfold St.place cut32 St.rg; simp
  have hml := h.fit.ml
  have ho : s.move ⟨2, true, false, an, bn, 0, 0, imm⟩ = some ({ s with mem := s.mem.set (p / 4).toNat (s.rg an) }) := by
    unfold St.move
    rw [if_neg (by simp), if_neg (by omega), if_neg (by omega), if_neg (by omega)]
    rw [hp]
    rfl
  have HO := Lib.hid ho
  rw [← hp] at h4 hl
  obtain ⟨p0, p1⟩ := hpw
  obtain ⟨K, hK⟩ : ∃ K : Nat, p / 4 = K := ⟨(p / 4).toNat, by omega⟩
  have n32 : (p == 4294967232) = false := by rw [beq_eq_false_iff_ne]; have := h.fit.ml; omega
  have n36 : (p == 4294967236) = false := by rw [beq_eq_false_iff_ne]; have := h.fit.ml; omega
  have k4 : p / 4 = K := hK
  have kt : p.tdiv 4 = K := by rw [Int.tdiv_eq_ediv_of_nonneg p0]; exact hK
  have ku : IntKind.u32.wrap (K : Int) = K := by rw [u32_mod]; omega
  have m4 : (p % 4 == 0) = true := by rw [beq_iff_eq]; exact h4
  have m5 : (p % 4 != 0) = false := by rw [h4]; rfl
  have hKl : K < s.mem.length := by omega
  have hKl2 : (K : Int) < (s.mem.length : Int) := by omega
  clear ho hp h4 hl hK
  obtain ⟨hx0, hx1⟩ := hXw
  have cb := h.p_r bn hbn
  rw [hX] at cb
  have hql : q < w.heap.size := (h.fb q h.fq).2
  have H := Lib.hid h
  have HA := Lib.hid hA
  have HAW := Lib.hid hAw
  simp only [insV]
  clear h hX hA hAw ha hb 
  go_enter Try.func34, Try.ntmps34
  go_upto_region 1 with fail
  go_cut [5] (fun y wx => y = .int .u32 p ∧ Mach true wx B q F cv mv iv ov s ∧ Fr F w wx ∧ ∀ j, wx.cell? ⟨w.heap.size, j, none⟩ = (boxOf ⟨2, true, false, an, bn, 0, 0, imm⟩)[j]?)
  case first =>
    go_quiet (fail)
    go_wp2_with fail
    go_meet
    case rel =>
      refine ⟨by first | rw [e1] | rw [e2] | rfl, (H.out.alloc _).drewN _, ((Fr.refl F w).alloc _).drewN _, fun j => ?_⟩
      have ee : ∀ (o : Obj) (m : Nat), ((w.alloc o).drewN m).cell? ⟨w.heap.size, j, none⟩ = (w.alloc o).cell? ⟨w.heap.size, j, none⟩ := fun _ _ => rfl
      rw [ee, World.cell?_alloc_new]; rfl
  case rest =>
    obtain ⟨rfl, hM, hF, hbox⟩ := hcut
    have d1 : wc.cell? ⟨w.heap.size, 1, none⟩ = some (.bool true) := hbox 1
    have d2 : wc.cell? ⟨w.heap.size, 2, none⟩ = some (.bool false) := hbox 2
    have d3 : wc.cell? ⟨w.heap.size, 3, none⟩ = some (.int .i64 an) := hbox 3
    have hbw := World.block_lt_of_cell? wc _ d1
    have cm := hM.p_mv
    have ci := hM.p_iv
    have fi := hM.frozen 2
    have co := hM.p_ov
    have fo := hM.frozen 25
    have ca := hM.p_r an han
    rw [HA.out] at ca
    obtain ⟨ma, mc, rfl, ml1, ml2, ml3⟩ := owns_shape hM.mem
    unfold maxLen at ml2
    obtain ⟨ML, hML⟩ : ∃ ML, ML = s.mem.length := ⟨_, rfl⟩
    rw [← hML] at cm ml1
    have HML := Lib.hid hML
    have hqc : q < wc.heap.size := (hM.fb q hM.fq).2
    have HM := Lib.hid hM
    have HF := Lib.hid hF
    clear hM hF hbox hML
    obtain ⟨g, mc', hv, hgb, hgs, hg1, hg2⟩ := owns_some HM.out.mem (by omega)
    cases hv
    have hmc := HM.out.mem.cellAt K (by omega)
    rw [u32s_get _ _ hKl] at hmc
    obtain ⟨Z, hZ⟩ : ∃ Z, s.mem.getD K 0 = Z := ⟨_, rfl⟩
    rw [hZ] at hmc
    have fmc := HM.out.mem.frozenAt K
    obtain ⟨hFg, hgq⟩ := HM.out.fm g rfl
    rw [← HML.out] at hKl hKl2
    have HO2 := Lib.hid HO.out
    have HAWx := HAW.out
    clear ci fi co fo
    go_wp2_with fail
    clear n32 n36 m5
    go_region
    go_wp2_with fail
    go_ret
    refine mv_some (s := s) (iv' := iv) (ov' := ov) HO2.out (F' := F) ?_ (fun _ h => .inl h) ?_
    · rw [k4, Int.toNat_natCast, show s.rg an = A from HA.out]
      first | exact (HM.out.store rfl K A HAWx).drew | exact (HM.out.drewN _).store rfl K A HAWx | exact HM.out.store rfl K A HAWx
    · first | exact (HF.out.setCell (p := ⟨g, K, none⟩) (.inr hFg) _).drew | exact (HF.out.drewN _).setCell (p := ⟨g, K, none⟩) (.inr hFg) _ | exact HF.out.setCell (p := ⟨g, K, none⟩) (.inr hFg) _

set_option maxHeartbeats 3200000 in
theorem pmv_load (h : Mach true w B q F cv mv iv ov s) (a b imm : Int) (ha : nib a) (hb : nib b) (hi0 : -524288 ≤ imm) (hi1 : imm < 524288) (hol : s.out.length ≤ 1000000) (h4 : s.place ⟨2, false, false, a, b, 0, 0, imm⟩ % 4 = 0) (hl : s.place ⟨2, false, false, a, b, 0, 0, imm⟩ / 4 < (s.mem.length : Int)) :
    Calls Try.prog 34 #[.pointer (some ⟨q, 0, none⟩), insV ⟨2, false, false, a, b, 0, 0, imm⟩] w (MvPost true w B q F cv mv iv s (s.move ⟨2, false, false, a, b, 0, 0, imm⟩)) := by
  obtain ⟨an, rfl⟩ := Int.eq_ofNat_of_zero_le ha.1
  obtain ⟨bn, rfl⟩ := Int.eq_ofNat_of_zero_le hb.1
  have han : an < 16 := by have := (show (an : Int) < 16 from ha.2); omega
  have hbn : bn < 16 := by have := (show (bn : Int) < 16 from hb.2); omega
  obtain ⟨p, hp⟩ : ∃ p, p = s.place ⟨2, false, false, an, bn, 0, 0, imm⟩ := ⟨_, rfl⟩
  have hpw : W32 p := by rw [hp]; exact u32_in _
  obtain ⟨X, hX⟩ : ∃ X, s.r.getD bn 0 = X := ⟨_, rfl⟩
  obtain ⟨A, hA⟩ : ∃ A, s.r.getD an 0 = A := ⟨_, rfl⟩
  have hXw : W32 X := by rw [← hX]; exact h.fit.rg bn hb
  have hAw : W32 A := by rw [← hA]; exact h.fit.rg an ha
  have e1 : (X + imm % 4294967296) % 4294967296 = p := by rw [hp, ← hX]; unfold St.place cut32 St.rg; simp
  have e2 : (X + imm) % 4294967296 = p := by rw [hp, ← hX]; unfold St.place cut32 St.rg; simp
  have hml := h.fit.ml
  have ho : s.move ⟨2, false, false, an, bn, 0, 0, imm⟩ = some (s.told an (s.mem.getD (p / 4).toNat 0)) := by
    unfold St.move
    rw [if_neg (by simp), if_neg (by omega), if_neg (by omega), if_neg (by omega)]
    rw [hp]
    rfl
  have HO := Lib.hid ho
  rw [← hp] at h4 hl
  obtain ⟨p0, p1⟩ := hpw
  obtain ⟨K, hK⟩ : ∃ K : Nat, p / 4 = K := ⟨(p / 4).toNat, by omega⟩
  have n32 : (p == 4294967232) = false := by rw [beq_eq_false_iff_ne]; have := h.fit.ml; omega
  have n36 : (p == 4294967236) = false := by rw [beq_eq_false_iff_ne]; have := h.fit.ml; omega
  have k4 : p / 4 = K := hK
  have kt : p.tdiv 4 = K := by rw [Int.tdiv_eq_ediv_of_nonneg p0]; exact hK
  have ku : IntKind.u32.wrap (K : Int) = K := by rw [u32_mod]; omega
  have m4 : (p % 4 == 0) = true := by rw [beq_iff_eq]; exact h4
  have m5 : (p % 4 != 0) = false := by rw [h4]; rfl
  have hKl : K < s.mem.length := by omega
  have hKl2 : (K : Int) < (s.mem.length : Int) := by omega
  clear ho hp h4 hl hK
  obtain ⟨hx0, hx1⟩ := hXw
  have cb := h.p_r bn hbn
  rw [hX] at cb
  have hql : q < w.heap.size := (h.fb q h.fq).2
  have H := Lib.hid h
  have HA := Lib.hid hA
  have HAW := Lib.hid hAw
  simp only [insV]
  clear h hX hA hAw ha hb 
  go_enter Try.func34, Try.ntmps34
  go_upto_region 1 with fail
  go_cut [5] (fun y wx => y = .int .u32 p ∧ Mach true wx B q F cv mv iv ov s ∧ Fr F w wx ∧ ∀ j, wx.cell? ⟨w.heap.size, j, none⟩ = (boxOf ⟨2, false, false, an, bn, 0, 0, imm⟩)[j]?)
  case first =>
    go_quiet (fail)
    go_wp2_with fail
    go_meet
    case rel =>
      refine ⟨by first | rw [e1] | rw [e2] | rfl, (H.out.alloc _).drewN _, ((Fr.refl F w).alloc _).drewN _, fun j => ?_⟩
      have ee : ∀ (o : Obj) (m : Nat), ((w.alloc o).drewN m).cell? ⟨w.heap.size, j, none⟩ = (w.alloc o).cell? ⟨w.heap.size, j, none⟩ := fun _ _ => rfl
      rw [ee, World.cell?_alloc_new]; rfl
  case rest =>
    obtain ⟨rfl, hM, hF, hbox⟩ := hcut
    have d1 : wc.cell? ⟨w.heap.size, 1, none⟩ = some (.bool false) := hbox 1
    have d2 : wc.cell? ⟨w.heap.size, 2, none⟩ = some (.bool false) := hbox 2
    have d3 : wc.cell? ⟨w.heap.size, 3, none⟩ = some (.int .i64 an) := hbox 3
    have hbw := World.block_lt_of_cell? wc _ d1
    have cm := hM.p_mv
    have ci := hM.p_iv
    have fi := hM.frozen 2
    have co := hM.p_ov
    have fo := hM.frozen 25
    have ca := hM.p_r an han
    rw [HA.out] at ca
    obtain ⟨ma, mc, rfl, ml1, ml2, ml3⟩ := owns_shape hM.mem
    unfold maxLen at ml2
    obtain ⟨ML, hML⟩ : ∃ ML, ML = s.mem.length := ⟨_, rfl⟩
    rw [← hML] at cm ml1
    have HML := Lib.hid hML
    have hqc : q < wc.heap.size := (hM.fb q hM.fq).2
    have HM := Lib.hid hM
    have HF := Lib.hid hF
    clear hM hF hbox hML
    obtain ⟨g, mc', hv, hgb, hgs, hg1, hg2⟩ := owns_some HM.out.mem (by omega)
    cases hv
    have hmc := HM.out.mem.cellAt K (by omega)
    rw [u32s_get _ _ hKl] at hmc
    obtain ⟨Z, hZ⟩ : ∃ Z, s.mem.getD K 0 = Z := ⟨_, rfl⟩
    rw [hZ] at hmc
    have fmc := HM.out.mem.frozenAt K
    obtain ⟨hFg, hgq⟩ := HM.out.fm g rfl
    rw [← HML.out] at hKl hKl2
    have HO2 := Lib.hid HO.out
    have HAWx := HAW.out
    clear ci fi co fo
    have hZw : W32 Z := by rw [← hZ]; exact HM.out.fit.m _ (getD_mem _ _ (by rw [← HML.out]; exact hKl))
    have HZ := Lib.hid hZ
    have hTD := fun (W : World) (hW : Mach true W B q F cv (.slice (some ⟨g, 0, none⟩) s.mem.length mc) iv ov s) => ptold_any hW an han Z hZw
    have HTD := Lib.hid hTD
    clear hZ hTD
    go_wp2_with fail
    clear n32 n36 m5
    go_region_with (go_at_call 55; refine (HTD.out _ (by first | exact HM.out | exact HM.out.drewN _ | exact HM.out.drew)).mono ?_; rintro e w5 ⟨rfl, hM5, hF5⟩)
    all_goals
      have HR := Lib.hid (mv_some (w := w) (F := F) (s := s) HO2.out (by rw [k4, Int.toNat_natCast, HZ.out]; exact hM5) (fun _ h => .inl h) (by first | exact HF.out.trans hF5 (fun _ _ h => h) | exact (HF.out.drewN _).trans hF5 (fun _ _ h => h) | exact HF.out.drew.trans hF5 (fun _ _ h => h)))
      clear hM5 hF5
      go_wp2_with fail
      go_ret
      exact HR.out

set_option maxHeartbeats 3200000 in
theorem pmv_out (h : Mach true w B q F cv mv iv ov s) (a b imm : Int) (ha : nib a) (hb : nib b) (hi0 : -524288 ≤ imm) (hi1 : imm < 524288) (hol : s.out.length ≤ 1000000) (hq : s.place ⟨2, true, false, a, b, 0, 0, imm⟩ = 4294967232) :
    Calls Try.prog 34 #[.pointer (some ⟨q, 0, none⟩), insV ⟨2, true, false, a, b, 0, 0, imm⟩] w (MvPost true w B q F cv mv iv s (s.move ⟨2, true, false, a, b, 0, 0, imm⟩)) := by
  obtain ⟨an, rfl⟩ := Int.eq_ofNat_of_zero_le ha.1
  obtain ⟨bn, rfl⟩ := Int.eq_ofNat_of_zero_le hb.1
  have han : an < 16 := by have := (show (an : Int) < 16 from ha.2); omega
  have hbn : bn < 16 := by have := (show (bn : Int) < 16 from hb.2); omega
  obtain ⟨p, hp⟩ : ∃ p, p = s.place ⟨2, true, false, an, bn, 0, 0, imm⟩ := ⟨_, rfl⟩
  have hpw : W32 p := by rw [hp]; exact u32_in _
  obtain ⟨X, hX⟩ : ∃ X, s.r.getD bn 0 = X := ⟨_, rfl⟩
  obtain ⟨A, hA⟩ : ∃ A, s.r.getD an 0 = A := ⟨_, rfl⟩
  have hXw : W32 X := by rw [← hX]; exact h.fit.rg bn hb
  have hAw : W32 A := by rw [← hA]; exact h.fit.rg an ha
  have e1 : (X + imm % 4294967296) % 4294967296 = p := by rw [hp, ← hX]; unfold St.place cut32 St.rg; simp
  have e2 : (X + imm) % 4294967296 = p := by rw [hp, ← hX]; unfold St.place cut32 St.rg; simp
  have hml := h.fit.ml
  have ho : s.move ⟨2, true, false, an, bn, 0, 0, imm⟩ = some { s with out := s.out ++ [s.rg an % 256] } := by unfold St.move; rw [if_neg (by simp), if_pos hq, if_pos rfl]
  have HO := Lib.hid ho
  rw [← hp] at hq
  obtain ⟨p0, p1⟩ := hpw
  have q4 : (p % 4 == 0) = true := by rw [hq]; rfl
  have w64 : (wrap32 p == -64) = true := by rw [beq_iff_eq]; unfold wrap32; omega
  have n32 : (p == 4294967232) = true := by rw [hq]; rfl
  have hbig : (1073741808 : Int) ≤ p / 4 := by rw [hq]; omega
  clear ho hp hq
  obtain ⟨hx0, hx1⟩ := hXw
  have cb := h.p_r bn hbn
  rw [hX] at cb
  have hql : q < w.heap.size := (h.fb q h.fq).2
  have H := Lib.hid h
  have HA := Lib.hid hA
  have HAW := Lib.hid hAw
  simp only [insV]
  clear h hX hA hAw ha hb 
  go_enter Try.func34, Try.ntmps34
  go_upto_region 1 with fail
  go_cut [5] (fun y wx => y = .int .u32 p ∧ Mach true wx B q F cv mv iv ov s ∧ Fr F w wx ∧ ∀ j, wx.cell? ⟨w.heap.size, j, none⟩ = (boxOf ⟨2, true, false, an, bn, 0, 0, imm⟩)[j]?)
  case first =>
    go_quiet (fail)
    go_wp2_with fail
    go_meet
    case rel =>
      refine ⟨by first | rw [e1] | rw [e2] | rfl, (H.out.alloc _).drewN _, ((Fr.refl F w).alloc _).drewN _, fun j => ?_⟩
      have ee : ∀ (o : Obj) (m : Nat), ((w.alloc o).drewN m).cell? ⟨w.heap.size, j, none⟩ = (w.alloc o).cell? ⟨w.heap.size, j, none⟩ := fun _ _ => rfl
      rw [ee, World.cell?_alloc_new]; rfl
  case rest =>
    obtain ⟨rfl, hM, hF, hbox⟩ := hcut
    have d1 : wc.cell? ⟨w.heap.size, 1, none⟩ = some (.bool true) := hbox 1
    have d2 : wc.cell? ⟨w.heap.size, 2, none⟩ = some (.bool false) := hbox 2
    have d3 : wc.cell? ⟨w.heap.size, 3, none⟩ = some (.int .i64 an) := hbox 3
    have hbw := World.block_lt_of_cell? wc _ d1
    have cm := hM.p_mv
    have ci := hM.p_iv
    have fi := hM.frozen 2
    have co := hM.p_ov
    have fo := hM.frozen 25
    have ca := hM.p_r an han
    rw [HA.out] at ca
    obtain ⟨ma, mc, rfl, ml1, ml2, ml3⟩ := owns_shape hM.mem
    unfold maxLen at ml2
    obtain ⟨ML, hML⟩ : ∃ ML, ML = s.mem.length := ⟨_, rfl⟩
    rw [← hML] at cm ml1
    have HML := Lib.hid hML
    have hqc : q < wc.heap.size := (hM.fb q hM.fq).2
    have HM := Lib.hid hM
    have HF := Lib.hid hF
    clear hM hF hbox hML
    have hl : ¬ p / 4 < (ML : Int) := by rw [HML.out]; omega
    have HOUT := Lib.hid (show wc.drew.ownsRow B 5 1 ov s.out.length (byt s.out) from HM.out.out)
    have HMA := Lib.hid (HM.out.drew.alloc (.cells (byt [A % 256]).toArray 5))
    have hB0 : B ≤ wc.heap.size := by have := (HM.out.fb q HM.out.fq).1; omega
    have hB1 : B ≤ (wc.drew.alloc (.cells (byt [A % 256]).toArray 5)).heap.size := by rw [World.size_alloc]; exact Nat.le_succ_of_le hB0
    have ho := HO.out
    rw [show s.rg an = A from HA.out] at ho
    have HO2 := Lib.hid ho
    clear ho ci fi
    go_wp2_with fail
    clear n32 w64 q4 hbig
    have hanI : (an : Int) < 16 := by omega
    have hanJ : (0 : Int) ≤ (an : Int) := by omega
    have hanK : ((an : Int) : Int).toNat = an := by omega
    go_region_law (refine step_app_own2 elemB rfl (.tmp 83) (.tmp 92) rfl B ov s.out.length (byt s.out) (by simp [Act.eval]) (HOUT.out.alloc _) wc.heap.size 0 1 1 (byt [A % 256]) (by simp [Act.eval]) rfl (new_cells wc.drew (byt [A % 256]) 5) (one_byt _) (by omega) (by simp only [maxLen]; omega) (by omega) hB1 ?_; intro v2 w2 ho2 hg2 hloc; obtain ⟨g2, cap2, rfl, _, _, _, _⟩ := owns_some ho2 (by omega); obtain ⟨c2, f2⟩ := HMA.out.pov_later hg2)
    all_goals
      have hp2 := HMA.out.push (A % 256) ⟨by omega, by omega⟩ hg2 ho2 hloc 25 (setP_ov s cv _ iv ov (.slice (some ⟨g2, 0, none⟩) (s.out.length + 1) cap2) HMA.out.fit.rl)
      have hf2 : Fr F w (w2.setCell ⟨q, 25, none⟩ (.slice (some ⟨g2, 0, none⟩) (s.out.length + 1) cap2)) := ((HF.out.drew.alloc _).trans (Fr.of_grown (F := F) hg2 (fun k hk => (HM.out.fo k hk).1)) (fun _ _ h => h)).setCell (p := ⟨q, 25, none⟩) (.inr H.out.fq) _
      have hk2 : ∀ k, (F k ∨ (Value.slice (some ⟨g2, 0, none⟩) (s.out.length + 1) cap2).ownBlock = some k) → F k ∨ w.heap.size ≤ k := fun k hk => by
        rcases hk with hk | hk
        · exact .inl hk
        · rcases hloc k hk with h1 | h1
          · exact .inl (HM.out.fo k h1).1
          · have := HF.out.size; simp at h1; exact .inr (by omega)
      have HP2 := Lib.hid hp2
      have HF2 := Lib.hid hf2
      have HK2 := Lib.hid hk2
      clear hp2 hf2 hk2
      go_wp2_with fail
      go_ret
      exact mv_some (s := s) HO2.out (by first | exact HP2.out | exact HP2.out.drew | exact HP2.out.drewN _) HK2.out (by first | exact HF2.out | exact HF2.out.drew | exact HF2.out.drewN _)

set_option maxHeartbeats 3200000 in
theorem pmv_in (h : Mach true w B q F cv mv iv ov s) (a b imm : Int) (ha : nib a) (hb : nib b) (hi0 : -524288 ≤ imm) (hi1 : imm < 524288) (hol : s.out.length ≤ 1000000) (hq : s.place ⟨2, false, false, a, b, 0, 0, imm⟩ = 4294967232) :
    Calls Try.prog 34 #[.pointer (some ⟨q, 0, none⟩), insV ⟨2, false, false, a, b, 0, 0, imm⟩] w (MvPost true w B q F cv mv iv s (s.move ⟨2, false, false, a, b, 0, 0, imm⟩)) := by
  obtain ⟨an, rfl⟩ := Int.eq_ofNat_of_zero_le ha.1
  obtain ⟨bn, rfl⟩ := Int.eq_ofNat_of_zero_le hb.1
  have han : an < 16 := by have := (show (an : Int) < 16 from ha.2); omega
  have hbn : bn < 16 := by have := (show (bn : Int) < 16 from hb.2); omega
  obtain ⟨p, hp⟩ : ∃ p, p = s.place ⟨2, false, false, an, bn, 0, 0, imm⟩ := ⟨_, rfl⟩
  have hpw : W32 p := by rw [hp]; exact u32_in _
  obtain ⟨X, hX⟩ : ∃ X, s.r.getD bn 0 = X := ⟨_, rfl⟩
  obtain ⟨A, hA⟩ : ∃ A, s.r.getD an 0 = A := ⟨_, rfl⟩
  have hXw : W32 X := by rw [← hX]; exact h.fit.rg bn hb
  have hAw : W32 A := by rw [← hA]; exact h.fit.rg an ha
  have e1 : (X + imm % 4294967296) % 4294967296 = p := by rw [hp, ← hX]; unfold St.place cut32 St.rg; simp
  have e2 : (X + imm) % 4294967296 = p := by rw [hp, ← hX]; unfold St.place cut32 St.rg; simp
  have hml := h.fit.ml
  have ho : s.move ⟨2, false, false, an, bn, 0, 0, imm⟩ = some ({ s with inp := s.inp.tail }.told an (s.inp.headD 0)) := by unfold St.move; rw [if_neg (by simp), if_pos hq, if_neg (by simp)]
  have HO := Lib.hid ho
  rw [← hp] at hq
  obtain ⟨p0, p1⟩ := hpw
  have q4 : (p % 4 == 0) = true := by rw [hq]; rfl
  have w64 : (wrap32 p == -64) = true := by rw [beq_iff_eq]; unfold wrap32; omega
  have n32 : (p == 4294967232) = true := by rw [hq]; rfl
  have hbig : (1073741808 : Int) ≤ p / 4 := by rw [hq]; omega
  clear ho hp hq
  obtain ⟨hx0, hx1⟩ := hXw
  have cb := h.p_r bn hbn
  rw [hX] at cb
  have hql : q < w.heap.size := (h.fb q h.fq).2
  have H := Lib.hid h
  have HA := Lib.hid hA
  have HAW := Lib.hid hAw
  simp only [insV]
  clear h hX hA hAw ha hb 
  go_enter Try.func34, Try.ntmps34
  go_upto_region 1 with fail
  go_cut [5] (fun y wx => y = .int .u32 p ∧ Mach true wx B q F cv mv iv ov s ∧ Fr F w wx ∧ ∀ j, wx.cell? ⟨w.heap.size, j, none⟩ = (boxOf ⟨2, false, false, an, bn, 0, 0, imm⟩)[j]?)
  case first =>
    go_quiet (fail)
    go_wp2_with fail
    go_meet
    case rel =>
      refine ⟨by first | rw [e1] | rw [e2] | rfl, (H.out.alloc _).drewN _, ((Fr.refl F w).alloc _).drewN _, fun j => ?_⟩
      have ee : ∀ (o : Obj) (m : Nat), ((w.alloc o).drewN m).cell? ⟨w.heap.size, j, none⟩ = (w.alloc o).cell? ⟨w.heap.size, j, none⟩ := fun _ _ => rfl
      rw [ee, World.cell?_alloc_new]; rfl
  case rest =>
    obtain ⟨rfl, hM, hF, hbox⟩ := hcut
    have d1 : wc.cell? ⟨w.heap.size, 1, none⟩ = some (.bool false) := hbox 1
    have d2 : wc.cell? ⟨w.heap.size, 2, none⟩ = some (.bool false) := hbox 2
    have d3 : wc.cell? ⟨w.heap.size, 3, none⟩ = some (.int .i64 an) := hbox 3
    have hbw := World.block_lt_of_cell? wc _ d1
    have cm := hM.p_mv
    have ci := hM.p_iv
    have fi := hM.frozen 2
    have co := hM.p_ov
    have fo := hM.frozen 25
    have ca := hM.p_r an han
    rw [HA.out] at ca
    obtain ⟨ma, mc, rfl, ml1, ml2, ml3⟩ := owns_shape hM.mem
    unfold maxLen at ml2
    obtain ⟨ML, hML⟩ : ∃ ML, ML = s.mem.length := ⟨_, rfl⟩
    rw [← hML] at cm ml1
    have HML := Lib.hid hML
    have hqc : q < wc.heap.size := (hM.fb q hM.fq).2
    have HM := Lib.hid hM
    have HF := Lib.hid hF
    clear hM hF hbox hML
    have hl : ¬ p / 4 < (ML : Int) := by rw [HML.out]; omega
    obtain ⟨ia, ic, rfl, il1, il2, il3⟩ := rd_shape HM.out.inp
    unfold maxLen at il2
    have ho := HO.out
    cases hinp : s.inp with
    | nil =>
      have es : { s with inp := s.inp.tail } = s := by rw [hinp]; cases s; simp at hinp; subst hinp; rfl
      rw [es, hinp] at ho
      have HO2 := Lib.hid ho
      have hzl : s.inp.length = 0 := by rw [hinp]; rfl
      rw [hzl] at ci il1
      clear ho hinp hzl es
      go_wp2_with fail
      refine (ptold_any HM.out an han 0 ⟨by omega, by omega⟩).mono ?_; rintro e w5 ⟨rfl, hM5, hF5⟩
      have HR := Lib.hid (mv_some (w := w) (F := F) (s := s) HO2.out hM5 (fun _ h => .inl h) (HF.out.trans hF5 (fun _ _ h => h)))
      clear hM5 hF5
      go_wp2_with fail
      go_ret
      exact HR.out
    | cons y ys =>
      obtain ⟨IL, hIL⟩ : ∃ IL, IL = s.inp.length := ⟨_, rfl⟩
      have hI0 : 0 < IL := by rw [hIL, hinp]; simp
      have hIT : s.inp.tail.length = IL - 1 := by rw [hIL]; simp
      have hyw : Byte y := HM.out.fit.i y (by rw [hinp]; simp)
      rw [show s.inp.headD 0 = y by rw [hinp]; rfl] at ho
      have HO2 := Lib.hid ho
      obtain ⟨ib, io, rfl, hic⟩ := Rd_at HM.out.inp (by omega)
      have cy : wc.cell? ⟨ib, io, none⟩ = some (.int .u8 y) := by
        have := hic 0 (.int .u8 y) (by rw [hinp]; rfl)
        simpa using this
      have hdrop := HM.out.inp.drop 1 (by omega)
      have htl : (byt s.inp).drop (1 * 1) = byt s.inp.tail := by rw [hinp]; rfl
      rw [htl] at hdrop
      have hnil : IL = 1 → s.inp.tail = [] := fun h => List.eq_nil_of_length_eq_zero (by omega)
      have hfi := HM.out.fi
      rw [← hIL] at ci il1 hdrop hfi
      have HDROP := Lib.hid hdrop
      have HNIL := Lib.hid hnil
      have HFI := Lib.hid hfi
      have HIT := Lib.hid hIT
      obtain ⟨y0, y1⟩ := hyw
      have hqi : q ≠ w.heap.size := by omega
      clear ho hinp hIL hic hdrop htl hnil hfi hIT
      by_cases h1 : ic = 1
      · obtain rfl : IL = 1 := by omega
        subst h1
        have hr2 : Rd wc 1 (.slice (some ⟨ib, io, none⟩) 0 0) s.inp.tail.length (byt s.inp.tail) := by
          rw [HNIL.out rfl]
          exact ⟨by simp [byt], _, _, rfl, Nat.le_refl _, by simp [maxLen], fun _ => rfl, fun h => absurd h (by simp)⟩
        have HTK := Lib.hid (HM.out.take (.slice (some ⟨ib, io, none⟩) 0 0) hr2 (fun k hk hn => absurd hn (by rw [HNIL.out rfl]; simp)) 2 (setP_iv s cv _ _ ov _ HM.out.fit.rl))
        have HFK := Lib.hid (HF.out.setCell (p := ⟨q, 2, none⟩) (.inr H.out.fq) (.slice (some ⟨ib, io, none⟩) 0 0))
        clear hr2
        go_wp2_with fail
        refine (ptold_any (by first | exact HTK.out | exact HTK.out.drew | exact (HM.out.drewN _).take (.slice (some ⟨ib, io, none⟩) 0 0) HTK.out.inp HTK.out.fi 2 (setP_iv s cv _ _ ov _ HM.out.fit.rl)) an han y ⟨by omega, by omega⟩).mono ?_; rintro e w5 ⟨rfl, hM5, hF5⟩
        have HR := Lib.hid (mv_some (w := w) (F := F) (s := s) (iv := .slice (some ⟨ib, io, none⟩) s.inp.length 1) HO2.out hM5 (fun _ h => .inl h) (by first | exact HFK.out.trans hF5 (fun _ _ h => h) | exact HFK.out.drew.trans hF5 (fun _ _ h => h)))
        clear hM5 hF5
        go_wp2_with fail
        go_ret
        exact HR.out
      · have h1' : 1 < ic := by omega
        have h1'' : ¬ ic = 1 := h1
        have hr2 : Rd wc 1 (.slice (some ⟨ib, io + 1, none⟩) (IL - 1) (ic - 1)) s.inp.tail.length (byt s.inp.tail) := by
          rw [HIT.out]; exact HDROP.out
        have HTK := Lib.hid (HM.out.take (.slice (some ⟨ib, io + 1, none⟩) (IL - 1) (ic - 1)) hr2 (fun k hk hn => HFI.out k hk (by omega)) 2 (setP_iv s cv _ _ ov _ HM.out.fit.rl))
        have HFK := Lib.hid (HF.out.setCell (p := ⟨q, 2, none⟩) (.inr H.out.fq) (.slice (some ⟨ib, io + 1, none⟩) (IL - 1) (ic - 1)))
        clear hr2
        go_wp2_with fail
        refine (ptold_any (by first | exact HTK.out | exact HTK.out.drew) an han y ⟨by omega, by omega⟩).mono ?_; rintro e w5 ⟨rfl, hM5, hF5⟩
        have HR := Lib.hid (mv_some (w := w) (F := F) (s := s) (iv := .slice (some ⟨ib, io, none⟩) s.inp.length ic) HO2.out hM5 (fun _ h => .inl h) (by first | exact HFK.out.trans hF5 (fun _ _ h => h) | exact HFK.out.drew.trans hF5 (fun _ _ h => h)))
        clear hM5 hF5
        go_wp2_with fail
        go_ret
        exact HR.out

set_option maxHeartbeats 3200000 in
theorem rmv_byte (h : Mach false w B q F cv mv iv ov s) (u : Bool) (a b imm : Int) (ha : nib a) (hb : nib b) (hi0 : -524288 ≤ imm) (hi1 : imm < 524288) (hol : s.out.length ≤ 1000000)  :
    Calls Try.prog 42 #[.pointer (some ⟨q, 0, none⟩), insV ⟨2, u, true, a, b, 0, 0, imm⟩] w (MvPost false w B q F cv mv iv s (s.move ⟨2, u, true, a, b, 0, 0, imm⟩)) := by
  obtain ⟨an, rfl⟩ := Int.eq_ofNat_of_zero_le ha.1
  obtain ⟨bn, rfl⟩ := Int.eq_ofNat_of_zero_le hb.1
  have han : an < 16 := by have := (show (an : Int) < 16 from ha.2); omega
  have hbn : bn < 16 := by have := (show (bn : Int) < 16 from hb.2); omega
  obtain ⟨p, hp⟩ : ∃ p, p = s.place ⟨2, u, true, an, bn, 0, 0, imm⟩ := ⟨_, rfl⟩
  have hpw : W32 p := by rw [hp]; exact u32_in _
  obtain ⟨X, hX⟩ : ∃ X, s.r.getD bn 0 = X := ⟨_, rfl⟩
  obtain ⟨A, hA⟩ : ∃ A, s.r.getD an 0 = A := ⟨_, rfl⟩
  have hXw : W32 X := by rw [← hX]; exact h.fit.rg bn hb
  have hAw : W32 A := by rw [← hA]; exact h.fit.rg an ha
  have e1 : (X + imm % 4294967296) % 4294967296 = p := by rw [hp, ← hX]; unfold St.place cut32 St.rg; simp
  have e2 : (X + imm) % 4294967296 = p := by rw [hp, ← hX]; unfold St.place cut32 St.rg; simp
  have hml := h.fit.ml
  have ho : s.move ⟨2, u, true, an, bn, 0, 0, imm⟩ = none := by unfold St.move; rw [if_pos rfl]
  have HO := Lib.hid ho
  obtain ⟨p0, p1⟩ := hpw
  clear ho hp
  obtain ⟨hx0, hx1⟩ := hXw
  have cb := h.r_r bn hbn
  rw [hX] at cb
  have hql : q < w.heap.size := (h.fb q h.fq).2
  have H := Lib.hid h
  have HA := Lib.hid hA
  have HAW := Lib.hid hAw
  simp only [insV]
  clear h hX hA hAw ha hb 
  go_enter Try.func42, Try.ntmps42
  go_upto_region 1 with fail
  go_cut [5] (fun y wx => y = .int .u32 p ∧ Mach false wx B q F cv mv iv ov s ∧ Fr F w wx ∧ ∀ j, wx.cell? ⟨w.heap.size, j, none⟩ = (boxOf ⟨2, u, true, an, bn, 0, 0, imm⟩)[j]?)
  case first =>
    go_quiet (fail)
    go_wp2_with fail
    go_meet
    case rel =>
      refine ⟨by first | rw [e1] | rw [e2] | rfl, (H.out.alloc _).drewN _, ((Fr.refl F w).alloc _).drewN _, fun j => ?_⟩
      have ee : ∀ (o : Obj) (m : Nat), ((w.alloc o).drewN m).cell? ⟨w.heap.size, j, none⟩ = (w.alloc o).cell? ⟨w.heap.size, j, none⟩ := fun _ _ => rfl
      rw [ee, World.cell?_alloc_new]; rfl
  case rest =>
    obtain ⟨rfl, hM, hF, hbox⟩ := hcut
    have d1 : wc.cell? ⟨w.heap.size, 1, none⟩ = some (.bool u) := hbox 1
    have d2 : wc.cell? ⟨w.heap.size, 2, none⟩ = some (.bool true) := hbox 2
    have d3 : wc.cell? ⟨w.heap.size, 3, none⟩ = some (.int .i64 an) := hbox 3
    have hbw := World.block_lt_of_cell? wc _ d1
    have cm := hM.r_mv
    have ci := hM.r_iv
    have fi := hM.frozen 24
    have co := hM.r_ov
    have fo := hM.frozen 25
    have ca := hM.r_r an han
    rw [HA.out] at ca
    obtain ⟨ma, mc, rfl, ml1, ml2, ml3⟩ := owns_shape hM.mem
    unfold maxLen at ml2
    obtain ⟨ML, hML⟩ : ∃ ML, ML = s.mem.length := ⟨_, rfl⟩
    rw [← hML] at cm ml1
    have HML := Lib.hid hML
    have hqc : q < wc.heap.size := (hM.fb q hM.fq).2
    have HM := Lib.hid hM
    have HF := Lib.hid hF
    clear hM hF hbox hML
    go_wp2_with fail
    go_ret
    exact mv_none HO.out HM.out HF.out

set_option maxHeartbeats 3200000 in
theorem rmv_none (h : Mach false w B q F cv mv iv ov s) (u : Bool) (a b imm : Int) (ha : nib a) (hb : nib b) (hi0 : -524288 ≤ imm) (hi1 : imm < 524288) (hol : s.out.length ≤ 1000000) (hn : s.place ⟨2, u, false, a, b, 0, 0, imm⟩ ≠ 4294967232) (hn2 : ¬ (s.place ⟨2, u, false, a, b, 0, 0, imm⟩ = 4294967236 ∧ u = false)) (hn3 : s.place ⟨2, u, false, a, b, 0, 0, imm⟩ % 4 ≠ 0 ∨ (s.mem.length : Int) ≤ s.place ⟨2, u, false, a, b, 0, 0, imm⟩ / 4) :
    Calls Try.prog 42 #[.pointer (some ⟨q, 0, none⟩), insV ⟨2, u, false, a, b, 0, 0, imm⟩] w (MvPost false w B q F cv mv iv s (s.move ⟨2, u, false, a, b, 0, 0, imm⟩)) := by
  obtain ⟨an, rfl⟩ := Int.eq_ofNat_of_zero_le ha.1
  obtain ⟨bn, rfl⟩ := Int.eq_ofNat_of_zero_le hb.1
  have han : an < 16 := by have := (show (an : Int) < 16 from ha.2); omega
  have hbn : bn < 16 := by have := (show (bn : Int) < 16 from hb.2); omega
  obtain ⟨p, hp⟩ : ∃ p, p = s.place ⟨2, u, false, an, bn, 0, 0, imm⟩ := ⟨_, rfl⟩
  have hpw : W32 p := by rw [hp]; exact u32_in _
  obtain ⟨X, hX⟩ : ∃ X, s.r.getD bn 0 = X := ⟨_, rfl⟩
  obtain ⟨A, hA⟩ : ∃ A, s.r.getD an 0 = A := ⟨_, rfl⟩
  have hXw : W32 X := by rw [← hX]; exact h.fit.rg bn hb
  have hAw : W32 A := by rw [← hA]; exact h.fit.rg an ha
  have e1 : (X + imm % 4294967296) % 4294967296 = p := by rw [hp, ← hX]; unfold St.place cut32 St.rg; simp
  have e2 : (X + imm) % 4294967296 = p := by rw [hp, ← hX]; unfold St.place cut32 St.rg; simp
  have hml := h.fit.ml
  have ho : s.move ⟨2, u, false, an, bn, 0, 0, imm⟩ = none := by unfold St.move; rw [if_neg (by simp), if_neg hn, if_neg hn2, if_pos hn3]
  have HO := Lib.hid ho
  rw [← hp] at hn hn2 hn3
  obtain ⟨p0, p1⟩ := hpw
  have w64 : (wrap32 p == -64) = false := by simp; unfold wrap32; omega
  have n32 : (p == 4294967232) = false := by simp [hn]
  have w60 : u = false → (wrap32 p == -60) = false ∧ (p == 4294967236) = false := fun hu => by
    have : p ≠ 4294967236 := fun e => hn2 ⟨e, hu⟩
    refine ⟨?_, by simp [this]⟩
    simp; unfold wrap32; omega
  have W60 := Lib.hid w60
  have HN3 := Lib.hid hn3
  clear ho hp hn hn2 hn3 w60
  obtain ⟨hx0, hx1⟩ := hXw
  have cb := h.r_r bn hbn
  rw [hX] at cb
  have hql : q < w.heap.size := (h.fb q h.fq).2
  have H := Lib.hid h
  have HA := Lib.hid hA
  have HAW := Lib.hid hAw
  simp only [insV]
  clear h hX hA hAw ha hb 
  go_enter Try.func42, Try.ntmps42
  go_upto_region 1 with fail
  go_cut [5] (fun y wx => y = .int .u32 p ∧ Mach false wx B q F cv mv iv ov s ∧ Fr F w wx ∧ ∀ j, wx.cell? ⟨w.heap.size, j, none⟩ = (boxOf ⟨2, u, false, an, bn, 0, 0, imm⟩)[j]?)
  case first =>
    go_quiet (fail)
    go_wp2_with fail
    go_meet
    case rel =>
      refine ⟨by first | rw [e1] | rw [e2] | rfl, (H.out.alloc _).drewN _, ((Fr.refl F w).alloc _).drewN _, fun j => ?_⟩
      have ee : ∀ (o : Obj) (m : Nat), ((w.alloc o).drewN m).cell? ⟨w.heap.size, j, none⟩ = (w.alloc o).cell? ⟨w.heap.size, j, none⟩ := fun _ _ => rfl
      rw [ee, World.cell?_alloc_new]; rfl
  case rest =>
    obtain ⟨rfl, hM, hF, hbox⟩ := hcut
    have d1 : wc.cell? ⟨w.heap.size, 1, none⟩ = some (.bool u) := hbox 1
    have d2 : wc.cell? ⟨w.heap.size, 2, none⟩ = some (.bool false) := hbox 2
    have d3 : wc.cell? ⟨w.heap.size, 3, none⟩ = some (.int .i64 an) := hbox 3
    have hbw := World.block_lt_of_cell? wc _ d1
    have cm := hM.r_mv
    have ci := hM.r_iv
    have fi := hM.frozen 24
    have co := hM.r_ov
    have fo := hM.frozen 25
    have ca := hM.r_r an han
    rw [HA.out] at ca
    obtain ⟨ma, mc, rfl, ml1, ml2, ml3⟩ := owns_shape hM.mem
    unfold maxLen at ml2
    obtain ⟨ML, hML⟩ : ∃ ML, ML = s.mem.length := ⟨_, rfl⟩
    rw [← hML] at cm ml1
    have HML := Lib.hid hML
    have hqc : q < wc.heap.size := (hM.fb q hM.fq).2
    have HM := Lib.hid hM
    have HF := Lib.hid hF
    clear hM hF hbox hML
    have hn3 := HN3.out
    rw [← HML.out] at hn3
    cases u with
    | true =>
      obtain ⟨b6, n36⟩ : ∃ b6, (p == 4294967236) = b6 := ⟨_, rfl⟩
      by_cases h4 : p % 4 = 0
      · have q4 : (p % 4 == 0) = true := by simp [h4]
        have hl : ¬ p / 4 < (ML : Int) := by omega
        have q5 : (p % 4 != 0) = false := by simp [h4]
        clear h4 hn3
        cases b6
        all_goals
          go_wp2_with fail
          go_ret
          exact mv_none HO.out HM.out HF.out
      · have q4 : (p % 4 == 0) = false := by simp [h4]
        have q5 : (p % 4 != 0) = true := by simp [h4]
        clear h4 hn3
        cases b6
        all_goals
          go_wp2_with fail
          go_ret
          exact mv_none HO.out HM.out HF.out
    | false =>
      obtain ⟨w60, n36⟩ := W60.out rfl
      by_cases h4 : p % 4 = 0
      · have q4 : (p % 4 == 0) = true := by simp [h4]
        have hl : ¬ p / 4 < (ML : Int) := by omega
        have q5 : (p % 4 != 0) = false := by simp [h4]
        clear h4 hn3
        go_wp2_with fail
        all_goals
          go_ret
          exact mv_none HO.out HM.out HF.out
      · have q4 : (p % 4 == 0) = false := by simp [h4]
        have q5 : (p % 4 != 0) = true := by simp [h4]
        clear h4 hn3
        go_wp2_with fail
        all_goals
          go_ret
          exact mv_none HO.out HM.out HF.out

set_option maxHeartbeats 3200000 in
theorem rmv_end (h : Mach false w B q F cv mv iv ov s) (a b imm : Int) (ha : nib a) (hb : nib b) (hi0 : -524288 ≤ imm) (hi1 : imm < 524288) (hol : s.out.length ≤ 1000000) (hq : s.place ⟨2, false, false, a, b, 0, 0, imm⟩ = 4294967236) :
    Calls Try.prog 42 #[.pointer (some ⟨q, 0, none⟩), insV ⟨2, false, false, a, b, 0, 0, imm⟩] w (MvPost false w B q F cv mv iv s (s.move ⟨2, false, false, a, b, 0, 0, imm⟩)) := by
  obtain ⟨an, rfl⟩ := Int.eq_ofNat_of_zero_le ha.1
  obtain ⟨bn, rfl⟩ := Int.eq_ofNat_of_zero_le hb.1
  have han : an < 16 := by have := (show (an : Int) < 16 from ha.2); omega
  have hbn : bn < 16 := by have := (show (bn : Int) < 16 from hb.2); omega
  obtain ⟨p, hp⟩ : ∃ p, p = s.place ⟨2, false, false, an, bn, 0, 0, imm⟩ := ⟨_, rfl⟩
  have hpw : W32 p := by rw [hp]; exact u32_in _
  obtain ⟨X, hX⟩ : ∃ X, s.r.getD bn 0 = X := ⟨_, rfl⟩
  obtain ⟨A, hA⟩ : ∃ A, s.r.getD an 0 = A := ⟨_, rfl⟩
  have hXw : W32 X := by rw [← hX]; exact h.fit.rg bn hb
  have hAw : W32 A := by rw [← hA]; exact h.fit.rg an ha
  have e1 : (X + imm % 4294967296) % 4294967296 = p := by rw [hp, ← hX]; unfold St.place cut32 St.rg; simp
  have e2 : (X + imm) % 4294967296 = p := by rw [hp, ← hX]; unfold St.place cut32 St.rg; simp
  have hml := h.fit.ml
  have ho : s.move ⟨2, false, false, an, bn, 0, 0, imm⟩ = some (s.told an (if s.inp = [] then 1 else 0)) := by unfold St.move; rw [if_neg (by simp), if_neg (by rw [hq]; omega), if_pos ⟨hq, rfl⟩]
  have HO := Lib.hid ho
  rw [← hp] at hq
  obtain ⟨p0, p1⟩ := hpw
  have q4 : (p % 4 == 0) = true := by rw [hq]; rfl
  have w64 : (wrap32 p == -64) = false := by rw [beq_eq_false_iff_ne]; unfold wrap32; omega
  have w60 : (wrap32 p == -60) = true := by rw [beq_iff_eq]; unfold wrap32; omega
  have n32 : (p == 4294967232) = false := by rw [hq]; rfl
  have n36 : (p == 4294967236) = true := by rw [hq]; rfl
  have hbig : (1073741809 : Int) ≤ p / 4 := by rw [hq]; omega
  clear ho hp hq
  obtain ⟨hx0, hx1⟩ := hXw
  have cb := h.r_r bn hbn
  rw [hX] at cb
  have hql : q < w.heap.size := (h.fb q h.fq).2
  have H := Lib.hid h
  have HA := Lib.hid hA
  have HAW := Lib.hid hAw
  simp only [insV]
  clear h hX hA hAw ha hb 
  go_enter Try.func42, Try.ntmps42
  go_upto_region 1 with fail
  go_cut [5] (fun y wx => y = .int .u32 p ∧ Mach false wx B q F cv mv iv ov s ∧ Fr F w wx ∧ ∀ j, wx.cell? ⟨w.heap.size, j, none⟩ = (boxOf ⟨2, false, false, an, bn, 0, 0, imm⟩)[j]?)
  case first =>
    go_quiet (fail)
    go_wp2_with fail
    go_meet
    case rel =>
      refine ⟨by first | rw [e1] | rw [e2] | rfl, (H.out.alloc _).drewN _, ((Fr.refl F w).alloc _).drewN _, fun j => ?_⟩
      have ee : ∀ (o : Obj) (m : Nat), ((w.alloc o).drewN m).cell? ⟨w.heap.size, j, none⟩ = (w.alloc o).cell? ⟨w.heap.size, j, none⟩ := fun _ _ => rfl
      rw [ee, World.cell?_alloc_new]; rfl
  case rest =>
    obtain ⟨rfl, hM, hF, hbox⟩ := hcut
    have d1 : wc.cell? ⟨w.heap.size, 1, none⟩ = some (.bool false) := hbox 1
    have d2 : wc.cell? ⟨w.heap.size, 2, none⟩ = some (.bool false) := hbox 2
    have d3 : wc.cell? ⟨w.heap.size, 3, none⟩ = some (.int .i64 an) := hbox 3
    have hbw := World.block_lt_of_cell? wc _ d1
    have cm := hM.r_mv
    have ci := hM.r_iv
    have fi := hM.frozen 24
    have co := hM.r_ov
    have fo := hM.frozen 25
    have ca := hM.r_r an han
    rw [HA.out] at ca
    obtain ⟨ma, mc, rfl, ml1, ml2, ml3⟩ := owns_shape hM.mem
    unfold maxLen at ml2
    obtain ⟨ML, hML⟩ : ∃ ML, ML = s.mem.length := ⟨_, rfl⟩
    rw [← hML] at cm ml1
    have HML := Lib.hid hML
    have hqc : q < wc.heap.size := (hM.fb q hM.fq).2
    have HM := Lib.hid hM
    have HF := Lib.hid hF
    clear hM hF hbox hML
    have hl : ¬ p / 4 < (ML : Int) := by rw [HML.out]; omega
    obtain ⟨ia, ic, rfl, il1, il2, il3⟩ := rd_shape HM.out.inp
    unfold maxLen at il2
    have ho := HO.out
    cases hinp : s.inp with
    | nil =>
      rw [if_pos hinp] at ho
      have HO2 := Lib.hid ho
      have hzl : s.inp.length = 0 := by rw [hinp]; rfl
      rw [hzl] at ci il1
      have HI := Lib.hid hinp
      clear ho hinp hzl
      go_wp2_with fail
      refine (rtold_any HM.out an han 1 ⟨by omega, by omega⟩).mono ?_; rintro e w5 ⟨rfl, hM5, hF5⟩
      have HR := Lib.hid (mv_some (w := w) (F := F) (s := s) HO2.out hM5 (fun _ h => .inl h) (HF.out.trans hF5 (fun _ _ h => h)))
      clear hM5 hF5
      go_wp2_with fail
      go_ret
      exact HR.out
    | cons y ys =>
      rw [if_neg (by rw [hinp]; simp)] at ho
      have HO2 := Lib.hid ho
      obtain ⟨IL, hIL⟩ : ∃ IL, IL = s.inp.length := ⟨_, rfl⟩
      have hI0 : 0 < IL := by rw [hIL, hinp]; simp
      rw [← hIL] at ci il1
      have q0 : ((IL : Int) == 0) = false := by simp; omega
      clear ho hinp hIL
      go_wp2_with fail
      refine (rtold_any HM.out an han 0 ⟨by omega, by omega⟩).mono ?_; rintro e w5 ⟨rfl, hM5, hF5⟩
      have HR := Lib.hid (mv_some (w := w) (F := F) (s := s) HO2.out hM5 (fun _ h => .inl h) (HF.out.trans hF5 (fun _ _ h => h)))
      clear hM5 hF5
      go_wp2_with fail
      go_ret
      exact HR.out

set_option maxHeartbeats 3200000 in
theorem rmv_store (h : Mach false w B q F cv mv iv ov s) (a b imm : Int) (ha : nib a) (hb : nib b) (hi0 : -524288 ≤ imm) (hi1 : imm < 524288) (hol : s.out.length ≤ 1000000) (h4 : s.place ⟨2, true, false, a, b, 0, 0, imm⟩ % 4 = 0) (hl : s.place ⟨2, true, false, a, b, 0, 0, imm⟩ / 4 < (s.mem.length : Int)) :
    Calls Try.prog 42 #[.pointer (some ⟨q, 0, none⟩), insV ⟨2, true, false, a, b, 0, 0, imm⟩] w (MvPost false w B q F cv mv iv s (s.move ⟨2, true, false, a, b, 0, 0, imm⟩)) := by
  obtain ⟨an, rfl⟩ := Int.eq_ofNat_of_zero_le ha.1
  obtain ⟨bn, rfl⟩ := Int.eq_ofNat_of_zero_le hb.1
  have han : an < 16 := by have := (show (an : Int) < 16 from ha.2); omega
  have hbn : bn < 16 := by have := (show (bn : Int) < 16 from hb.2); omega
  obtain ⟨p, hp⟩ : ∃ p, p = s.place ⟨2, true, false, an, bn, 0, 0, imm⟩ := ⟨_, rfl⟩
  have hpw : W32 p := by rw [hp]; exact u32_in _
  obtain ⟨X, hX⟩ : ∃ X, s.r.getD bn 0 = X := ⟨_, rfl⟩
  obtain ⟨A, hA⟩ : ∃ A, s.r.getD an 0 = A := ⟨_, rfl⟩
  have hXw : W32 X := by rw [← hX]; exact h.fit.rg bn hb
  have hAw : W32 A := by rw [← hA]; exact h.fit.rg an ha
  have e1 : (X + imm % 4294967296) % 4294967296 = p := by rw [hp, ← hX]; unfold St.place cut32 St.rg; simp
  have e2 : (X + imm) % 4294967296 = p := by rw [hp, ← hX]; unfold St.place cut32 St.rg; simp
  have hml := h.fit.ml
  have ho : s.move ⟨2, true, false, an, bn, 0, 0, imm⟩ = some ({ s with mem := s.mem.set (p / 4).toNat (s.rg an) }) := by
    unfold St.move
    rw [if_neg (by simp), if_neg (by omega), if_neg (by omega), if_neg (by omega)]
    rw [hp]
    rfl
  have HO := Lib.hid ho
  rw [← hp] at h4 hl
  obtain ⟨p0, p1⟩ := hpw
  obtain ⟨K, hK⟩ : ∃ K : Nat, p / 4 = K := ⟨(p / 4).toNat, by omega⟩
  have n32 : (p == 4294967232) = false := by rw [beq_eq_false_iff_ne]; have := h.fit.ml; omega
  have n36 : (p == 4294967236) = false := by rw [beq_eq_false_iff_ne]; have := h.fit.ml; omega
  have k4 : p / 4 = K := hK
  have kt : p.tdiv 4 = K := by rw [Int.tdiv_eq_ediv_of_nonneg p0]; exact hK
  have ku : IntKind.u32.wrap (K : Int) = K := by rw [u32_mod]; omega
  have m4 : (p % 4 == 0) = true := by rw [beq_iff_eq]; exact h4
  have m5 : (p % 4 != 0) = false := by rw [h4]; rfl
  have hKl : K < s.mem.length := by omega
  have hKl2 : (K : Int) < (s.mem.length : Int) := by omega
  clear ho hp h4 hl hK
  obtain ⟨hx0, hx1⟩ := hXw
  have cb := h.r_r bn hbn
  rw [hX] at cb
  have hql : q < w.heap.size := (h.fb q h.fq).2
  have H := Lib.hid h
  have HA := Lib.hid hA
  have HAW := Lib.hid hAw
  simp only [insV]
  clear h hX hA hAw ha hb 
  go_enter Try.func42, Try.ntmps42
  go_upto_region 1 with fail
  go_cut [5] (fun y wx => y = .int .u32 p ∧ Mach false wx B q F cv mv iv ov s ∧ Fr F w wx ∧ ∀ j, wx.cell? ⟨w.heap.size, j, none⟩ = (boxOf ⟨2, true, false, an, bn, 0, 0, imm⟩)[j]?)
  case first =>
    go_quiet (fail)
    go_wp2_with fail
    go_meet
    case rel =>
      refine ⟨by first | rw [e1] | rw [e2] | rfl, (H.out.alloc _).drewN _, ((Fr.refl F w).alloc _).drewN _, fun j => ?_⟩
      have ee : ∀ (o : Obj) (m : Nat), ((w.alloc o).drewN m).cell? ⟨w.heap.size, j, none⟩ = (w.alloc o).cell? ⟨w.heap.size, j, none⟩ := fun _ _ => rfl
      rw [ee, World.cell?_alloc_new]; rfl
  case rest =>
    obtain ⟨rfl, hM, hF, hbox⟩ := hcut
    have d1 : wc.cell? ⟨w.heap.size, 1, none⟩ = some (.bool true) := hbox 1
    have d2 : wc.cell? ⟨w.heap.size, 2, none⟩ = some (.bool false) := hbox 2
    have d3 : wc.cell? ⟨w.heap.size, 3, none⟩ = some (.int .i64 an) := hbox 3
    have hbw := World.block_lt_of_cell? wc _ d1
    have cm := hM.r_mv
    have ci := hM.r_iv
    have fi := hM.frozen 24
    have co := hM.r_ov
    have fo := hM.frozen 25
    have ca := hM.r_r an han
    rw [HA.out] at ca
    obtain ⟨ma, mc, rfl, ml1, ml2, ml3⟩ := owns_shape hM.mem
    unfold maxLen at ml2
    obtain ⟨ML, hML⟩ : ∃ ML, ML = s.mem.length := ⟨_, rfl⟩
    rw [← hML] at cm ml1
    have HML := Lib.hid hML
    have hqc : q < wc.heap.size := (hM.fb q hM.fq).2
    have HM := Lib.hid hM
    have HF := Lib.hid hF
    clear hM hF hbox hML
    obtain ⟨g, mc', hv, hgb, hgs, hg1, hg2⟩ := owns_some HM.out.mem (by omega)
    cases hv
    have hmc := HM.out.mem.cellAt K (by omega)
    rw [u32s_get _ _ hKl] at hmc
    obtain ⟨Z, hZ⟩ : ∃ Z, s.mem.getD K 0 = Z := ⟨_, rfl⟩
    rw [hZ] at hmc
    have fmc := HM.out.mem.frozenAt K
    obtain ⟨hFg, hgq⟩ := HM.out.fm g rfl
    rw [← HML.out] at hKl hKl2
    have HO2 := Lib.hid HO.out
    have HAWx := HAW.out
    clear ci fi co fo
    go_wp2_with fail
    clear n32 n36 m5
    go_region
    go_wp2_with fail
    go_ret
    refine mv_some (s := s) (iv' := iv) (ov' := ov) HO2.out (F' := F) ?_ (fun _ h => .inl h) ?_
    · rw [k4, Int.toNat_natCast, show s.rg an = A from HA.out]
      first | exact (HM.out.store rfl K A HAWx).drew | exact (HM.out.drewN _).store rfl K A HAWx | exact HM.out.store rfl K A HAWx
    · first | exact (HF.out.setCell (p := ⟨g, K, none⟩) (.inr hFg) _).drew | exact (HF.out.drewN _).setCell (p := ⟨g, K, none⟩) (.inr hFg) _ | exact HF.out.setCell (p := ⟨g, K, none⟩) (.inr hFg) _

set_option maxHeartbeats 3200000 in
theorem rmv_load (h : Mach false w B q F cv mv iv ov s) (a b imm : Int) (ha : nib a) (hb : nib b) (hi0 : -524288 ≤ imm) (hi1 : imm < 524288) (hol : s.out.length ≤ 1000000) (h4 : s.place ⟨2, false, false, a, b, 0, 0, imm⟩ % 4 = 0) (hl : s.place ⟨2, false, false, a, b, 0, 0, imm⟩ / 4 < (s.mem.length : Int)) :
    Calls Try.prog 42 #[.pointer (some ⟨q, 0, none⟩), insV ⟨2, false, false, a, b, 0, 0, imm⟩] w (MvPost false w B q F cv mv iv s (s.move ⟨2, false, false, a, b, 0, 0, imm⟩)) := by
  obtain ⟨an, rfl⟩ := Int.eq_ofNat_of_zero_le ha.1
  obtain ⟨bn, rfl⟩ := Int.eq_ofNat_of_zero_le hb.1
  have han : an < 16 := by have := (show (an : Int) < 16 from ha.2); omega
  have hbn : bn < 16 := by have := (show (bn : Int) < 16 from hb.2); omega
  obtain ⟨p, hp⟩ : ∃ p, p = s.place ⟨2, false, false, an, bn, 0, 0, imm⟩ := ⟨_, rfl⟩
  have hpw : W32 p := by rw [hp]; exact u32_in _
  obtain ⟨X, hX⟩ : ∃ X, s.r.getD bn 0 = X := ⟨_, rfl⟩
  obtain ⟨A, hA⟩ : ∃ A, s.r.getD an 0 = A := ⟨_, rfl⟩
  have hXw : W32 X := by rw [← hX]; exact h.fit.rg bn hb
  have hAw : W32 A := by rw [← hA]; exact h.fit.rg an ha
  have e1 : (X + imm % 4294967296) % 4294967296 = p := by rw [hp, ← hX]; unfold St.place cut32 St.rg; simp
  have e2 : (X + imm) % 4294967296 = p := by rw [hp, ← hX]; unfold St.place cut32 St.rg; simp
  have hml := h.fit.ml
  have ho : s.move ⟨2, false, false, an, bn, 0, 0, imm⟩ = some (s.told an (s.mem.getD (p / 4).toNat 0)) := by
    unfold St.move
    rw [if_neg (by simp), if_neg (by omega), if_neg (by omega), if_neg (by omega)]
    rw [hp]
    rfl
  have HO := Lib.hid ho
  rw [← hp] at h4 hl
  obtain ⟨p0, p1⟩ := hpw
  obtain ⟨K, hK⟩ : ∃ K : Nat, p / 4 = K := ⟨(p / 4).toNat, by omega⟩
  have n32 : (p == 4294967232) = false := by rw [beq_eq_false_iff_ne]; have := h.fit.ml; omega
  have n36 : (p == 4294967236) = false := by rw [beq_eq_false_iff_ne]; have := h.fit.ml; omega
  have k4 : p / 4 = K := hK
  have kt : p.tdiv 4 = K := by rw [Int.tdiv_eq_ediv_of_nonneg p0]; exact hK
  have ku : IntKind.u32.wrap (K : Int) = K := by rw [u32_mod]; omega
  have m4 : (p % 4 == 0) = true := by rw [beq_iff_eq]; exact h4
  have m5 : (p % 4 != 0) = false := by rw [h4]; rfl
  have hKl : K < s.mem.length := by omega
  have hKl2 : (K : Int) < (s.mem.length : Int) := by omega
  clear ho hp h4 hl hK
  obtain ⟨hx0, hx1⟩ := hXw
  have cb := h.r_r bn hbn
  rw [hX] at cb
  have hql : q < w.heap.size := (h.fb q h.fq).2
  have H := Lib.hid h
  have HA := Lib.hid hA
  have HAW := Lib.hid hAw
  simp only [insV]
  clear h hX hA hAw ha hb 
  go_enter Try.func42, Try.ntmps42
  go_upto_region 1 with fail
  go_cut [5] (fun y wx => y = .int .u32 p ∧ Mach false wx B q F cv mv iv ov s ∧ Fr F w wx ∧ ∀ j, wx.cell? ⟨w.heap.size, j, none⟩ = (boxOf ⟨2, false, false, an, bn, 0, 0, imm⟩)[j]?)
  case first =>
    go_quiet (fail)
    go_wp2_with fail
    go_meet
    case rel =>
      refine ⟨by first | rw [e1] | rw [e2] | rfl, (H.out.alloc _).drewN _, ((Fr.refl F w).alloc _).drewN _, fun j => ?_⟩
      have ee : ∀ (o : Obj) (m : Nat), ((w.alloc o).drewN m).cell? ⟨w.heap.size, j, none⟩ = (w.alloc o).cell? ⟨w.heap.size, j, none⟩ := fun _ _ => rfl
      rw [ee, World.cell?_alloc_new]; rfl
  case rest =>
    obtain ⟨rfl, hM, hF, hbox⟩ := hcut
    have d1 : wc.cell? ⟨w.heap.size, 1, none⟩ = some (.bool false) := hbox 1
    have d2 : wc.cell? ⟨w.heap.size, 2, none⟩ = some (.bool false) := hbox 2
    have d3 : wc.cell? ⟨w.heap.size, 3, none⟩ = some (.int .i64 an) := hbox 3
    have hbw := World.block_lt_of_cell? wc _ d1
    have cm := hM.r_mv
    have ci := hM.r_iv
    have fi := hM.frozen 24
    have co := hM.r_ov
    have fo := hM.frozen 25
    have ca := hM.r_r an han
    rw [HA.out] at ca
    obtain ⟨ma, mc, rfl, ml1, ml2, ml3⟩ := owns_shape hM.mem
    unfold maxLen at ml2
    obtain ⟨ML, hML⟩ : ∃ ML, ML = s.mem.length := ⟨_, rfl⟩
    rw [← hML] at cm ml1
    have HML := Lib.hid hML
    have hqc : q < wc.heap.size := (hM.fb q hM.fq).2
    have HM := Lib.hid hM
    have HF := Lib.hid hF
    clear hM hF hbox hML
    obtain ⟨g, mc', hv, hgb, hgs, hg1, hg2⟩ := owns_some HM.out.mem (by omega)
    cases hv
    have hmc := HM.out.mem.cellAt K (by omega)
    rw [u32s_get _ _ hKl] at hmc
    obtain ⟨Z, hZ⟩ : ∃ Z, s.mem.getD K 0 = Z := ⟨_, rfl⟩
    rw [hZ] at hmc
    have fmc := HM.out.mem.frozenAt K
    obtain ⟨hFg, hgq⟩ := HM.out.fm g rfl
    rw [← HML.out] at hKl hKl2
    have HO2 := Lib.hid HO.out
    have HAWx := HAW.out
    clear ci fi co fo
    have hZw : W32 Z := by rw [← hZ]; exact HM.out.fit.m _ (getD_mem _ _ (by rw [← HML.out]; exact hKl))
    have HZ := Lib.hid hZ
    have hTD := fun (W : World) (hW : Mach false W B q F cv (.slice (some ⟨g, 0, none⟩) s.mem.length mc) iv ov s) => rtold_any hW an han Z hZw
    have HTD := Lib.hid hTD
    clear hZ hTD
    go_wp2_with fail
    clear n32 n36 m5
    go_region_with (go_at_call 63; refine (HTD.out _ (by first | exact HM.out | exact HM.out.drewN _ | exact HM.out.drew)).mono ?_; rintro e w5 ⟨rfl, hM5, hF5⟩)
    all_goals
      have HR := Lib.hid (mv_some (w := w) (F := F) (s := s) HO2.out (by rw [k4, Int.toNat_natCast, HZ.out]; exact hM5) (fun _ h => .inl h) (by first | exact HF.out.trans hF5 (fun _ _ h => h) | exact (HF.out.drewN _).trans hF5 (fun _ _ h => h) | exact HF.out.drew.trans hF5 (fun _ _ h => h)))
      clear hM5 hF5
      go_wp2_with fail
      go_ret
      exact HR.out

set_option maxHeartbeats 3200000 in
theorem rmv_out (h : Mach false w B q F cv mv iv ov s) (a b imm : Int) (ha : nib a) (hb : nib b) (hi0 : -524288 ≤ imm) (hi1 : imm < 524288) (hol : s.out.length ≤ 1000000) (hq : s.place ⟨2, true, false, a, b, 0, 0, imm⟩ = 4294967232) :
    Calls Try.prog 42 #[.pointer (some ⟨q, 0, none⟩), insV ⟨2, true, false, a, b, 0, 0, imm⟩] w (MvPost false w B q F cv mv iv s (s.move ⟨2, true, false, a, b, 0, 0, imm⟩)) := by
  obtain ⟨an, rfl⟩ := Int.eq_ofNat_of_zero_le ha.1
  obtain ⟨bn, rfl⟩ := Int.eq_ofNat_of_zero_le hb.1
  have han : an < 16 := by have := (show (an : Int) < 16 from ha.2); omega
  have hbn : bn < 16 := by have := (show (bn : Int) < 16 from hb.2); omega
  obtain ⟨p, hp⟩ : ∃ p, p = s.place ⟨2, true, false, an, bn, 0, 0, imm⟩ := ⟨_, rfl⟩
  have hpw : W32 p := by rw [hp]; exact u32_in _
  obtain ⟨X, hX⟩ : ∃ X, s.r.getD bn 0 = X := ⟨_, rfl⟩
  obtain ⟨A, hA⟩ : ∃ A, s.r.getD an 0 = A := ⟨_, rfl⟩
  have hXw : W32 X := by rw [← hX]; exact h.fit.rg bn hb
  have hAw : W32 A := by rw [← hA]; exact h.fit.rg an ha
  have e1 : (X + imm % 4294967296) % 4294967296 = p := by rw [hp, ← hX]; unfold St.place cut32 St.rg; simp
  have e2 : (X + imm) % 4294967296 = p := by rw [hp, ← hX]; unfold St.place cut32 St.rg; simp
  have hml := h.fit.ml
  have ho : s.move ⟨2, true, false, an, bn, 0, 0, imm⟩ = some { s with out := s.out ++ [s.rg an % 256] } := by unfold St.move; rw [if_neg (by simp), if_pos hq, if_pos rfl]
  have HO := Lib.hid ho
  rw [← hp] at hq
  obtain ⟨p0, p1⟩ := hpw
  have q4 : (p % 4 == 0) = true := by rw [hq]; rfl
  have w64 : (wrap32 p == -64) = true := by rw [beq_iff_eq]; unfold wrap32; omega
  have n32 : (p == 4294967232) = true := by rw [hq]; rfl
  have hbig : (1073741808 : Int) ≤ p / 4 := by rw [hq]; omega
  clear ho hp hq
  obtain ⟨hx0, hx1⟩ := hXw
  have cb := h.r_r bn hbn
  rw [hX] at cb
  have hql : q < w.heap.size := (h.fb q h.fq).2
  have H := Lib.hid h
  have HA := Lib.hid hA
  have HAW := Lib.hid hAw
  simp only [insV]
  clear h hX hA hAw ha hb 
  go_enter Try.func42, Try.ntmps42
  go_upto_region 1 with fail
  go_cut [5] (fun y wx => y = .int .u32 p ∧ Mach false wx B q F cv mv iv ov s ∧ Fr F w wx ∧ ∀ j, wx.cell? ⟨w.heap.size, j, none⟩ = (boxOf ⟨2, true, false, an, bn, 0, 0, imm⟩)[j]?)
  case first =>
    go_quiet (fail)
    go_wp2_with fail
    go_meet
    case rel =>
      refine ⟨by first | rw [e1] | rw [e2] | rfl, (H.out.alloc _).drewN _, ((Fr.refl F w).alloc _).drewN _, fun j => ?_⟩
      have ee : ∀ (o : Obj) (m : Nat), ((w.alloc o).drewN m).cell? ⟨w.heap.size, j, none⟩ = (w.alloc o).cell? ⟨w.heap.size, j, none⟩ := fun _ _ => rfl
      rw [ee, World.cell?_alloc_new]; rfl
  case rest =>
    obtain ⟨rfl, hM, hF, hbox⟩ := hcut
    have d1 : wc.cell? ⟨w.heap.size, 1, none⟩ = some (.bool true) := hbox 1
    have d2 : wc.cell? ⟨w.heap.size, 2, none⟩ = some (.bool false) := hbox 2
    have d3 : wc.cell? ⟨w.heap.size, 3, none⟩ = some (.int .i64 an) := hbox 3
    have hbw := World.block_lt_of_cell? wc _ d1
    have cm := hM.r_mv
    have ci := hM.r_iv
    have fi := hM.frozen 24
    have co := hM.r_ov
    have fo := hM.frozen 25
    have ca := hM.r_r an han
    rw [HA.out] at ca
    obtain ⟨ma, mc, rfl, ml1, ml2, ml3⟩ := owns_shape hM.mem
    unfold maxLen at ml2
    obtain ⟨ML, hML⟩ : ∃ ML, ML = s.mem.length := ⟨_, rfl⟩
    rw [← hML] at cm ml1
    have HML := Lib.hid hML
    have hqc : q < wc.heap.size := (hM.fb q hM.fq).2
    have HM := Lib.hid hM
    have HF := Lib.hid hF
    clear hM hF hbox hML
    have hl : ¬ p / 4 < (ML : Int) := by rw [HML.out]; omega
    have HOUT := Lib.hid (show wc.drew.ownsRow B 5 1 ov s.out.length (byt s.out) from HM.out.out)
    have HMA := Lib.hid (HM.out.drew.alloc (.cells (byt [A % 256]).toArray 5))
    have hB0 : B ≤ wc.heap.size := by have := (HM.out.fb q HM.out.fq).1; omega
    have hB1 : B ≤ (wc.drew.alloc (.cells (byt [A % 256]).toArray 5)).heap.size := by rw [World.size_alloc]; exact Nat.le_succ_of_le hB0
    have ho := HO.out
    rw [show s.rg an = A from HA.out] at ho
    have HO2 := Lib.hid ho
    clear ho ci fi
    go_wp2_with fail
    clear n32 w64 q4 hbig
    have hanI : (an : Int) < 16 := by omega
    have hanJ : (0 : Int) ≤ (an : Int) := by omega
    have hanK : ((an : Int) : Int).toNat = an := by omega
    go_region_law (refine step_app_own2 elemB rfl (.tmp 44) (.tmp 53) rfl B ov s.out.length (byt s.out) (by simp [Act.eval]) (HOUT.out.alloc _) wc.heap.size 0 1 1 (byt [A % 256]) (by simp [Act.eval]) rfl (new_cells wc.drew (byt [A % 256]) 5) (one_byt _) (by omega) (by simp only [maxLen]; omega) (by omega) hB1 ?_; intro v2 w2 ho2 hg2 hloc; obtain ⟨g2, cap2, rfl, _, _, _, _⟩ := owns_some ho2 (by omega); obtain ⟨c2, f2⟩ := HMA.out.rov_later hg2)
    all_goals
      have hp2 := HMA.out.push (A % 256) ⟨by omega, by omega⟩ hg2 ho2 hloc 25 (setR_ov s cv _ iv ov (.slice (some ⟨g2, 0, none⟩) (s.out.length + 1) cap2) HMA.out.fit.rl)
      have hf2 : Fr F w (w2.setCell ⟨q, 25, none⟩ (.slice (some ⟨g2, 0, none⟩) (s.out.length + 1) cap2)) := ((HF.out.drew.alloc _).trans (Fr.of_grown (F := F) hg2 (fun k hk => (HM.out.fo k hk).1)) (fun _ _ h => h)).setCell (p := ⟨q, 25, none⟩) (.inr H.out.fq) _
      have hk2 : ∀ k, (F k ∨ (Value.slice (some ⟨g2, 0, none⟩) (s.out.length + 1) cap2).ownBlock = some k) → F k ∨ w.heap.size ≤ k := fun k hk => by
        rcases hk with hk | hk
        · exact .inl hk
        · rcases hloc k hk with h1 | h1
          · exact .inl (HM.out.fo k h1).1
          · have := HF.out.size; simp at h1; exact .inr (by omega)
      have HP2 := Lib.hid hp2
      have HF2 := Lib.hid hf2
      have HK2 := Lib.hid hk2
      clear hp2 hf2 hk2
      go_wp2_with fail
      go_ret
      exact mv_some (s := s) HO2.out (by first | exact HP2.out | exact HP2.out.drew | exact HP2.out.drewN _) HK2.out (by first | exact HF2.out | exact HF2.out.drew | exact HF2.out.drewN _)

set_option maxHeartbeats 3200000 in
theorem rmv_in (h : Mach false w B q F cv mv iv ov s) (a b imm : Int) (ha : nib a) (hb : nib b) (hi0 : -524288 ≤ imm) (hi1 : imm < 524288) (hol : s.out.length ≤ 1000000) (hq : s.place ⟨2, false, false, a, b, 0, 0, imm⟩ = 4294967232) :
    Calls Try.prog 42 #[.pointer (some ⟨q, 0, none⟩), insV ⟨2, false, false, a, b, 0, 0, imm⟩] w (MvPost false w B q F cv mv iv s (s.move ⟨2, false, false, a, b, 0, 0, imm⟩)) := by
  obtain ⟨an, rfl⟩ := Int.eq_ofNat_of_zero_le ha.1
  obtain ⟨bn, rfl⟩ := Int.eq_ofNat_of_zero_le hb.1
  have han : an < 16 := by have := (show (an : Int) < 16 from ha.2); omega
  have hbn : bn < 16 := by have := (show (bn : Int) < 16 from hb.2); omega
  obtain ⟨p, hp⟩ : ∃ p, p = s.place ⟨2, false, false, an, bn, 0, 0, imm⟩ := ⟨_, rfl⟩
  have hpw : W32 p := by rw [hp]; exact u32_in _
  obtain ⟨X, hX⟩ : ∃ X, s.r.getD bn 0 = X := ⟨_, rfl⟩
  obtain ⟨A, hA⟩ : ∃ A, s.r.getD an 0 = A := ⟨_, rfl⟩
  have hXw : W32 X := by rw [← hX]; exact h.fit.rg bn hb
  have hAw : W32 A := by rw [← hA]; exact h.fit.rg an ha
  have e1 : (X + imm % 4294967296) % 4294967296 = p := by rw [hp, ← hX]; unfold St.place cut32 St.rg; simp
  have e2 : (X + imm) % 4294967296 = p := by rw [hp, ← hX]; unfold St.place cut32 St.rg; simp
  have hml := h.fit.ml
  have ho : s.move ⟨2, false, false, an, bn, 0, 0, imm⟩ = some ({ s with inp := s.inp.tail }.told an (s.inp.headD 0)) := by unfold St.move; rw [if_neg (by simp), if_pos hq, if_neg (by simp)]
  have HO := Lib.hid ho
  rw [← hp] at hq
  obtain ⟨p0, p1⟩ := hpw
  have q4 : (p % 4 == 0) = true := by rw [hq]; rfl
  have w64 : (wrap32 p == -64) = true := by rw [beq_iff_eq]; unfold wrap32; omega
  have n32 : (p == 4294967232) = true := by rw [hq]; rfl
  have hbig : (1073741808 : Int) ≤ p / 4 := by rw [hq]; omega
  clear ho hp hq
  obtain ⟨hx0, hx1⟩ := hXw
  have cb := h.r_r bn hbn
  rw [hX] at cb
  have hql : q < w.heap.size := (h.fb q h.fq).2
  have H := Lib.hid h
  have HA := Lib.hid hA
  have HAW := Lib.hid hAw
  simp only [insV]
  clear h hX hA hAw ha hb 
  go_enter Try.func42, Try.ntmps42
  go_upto_region 1 with fail
  go_cut [5] (fun y wx => y = .int .u32 p ∧ Mach false wx B q F cv mv iv ov s ∧ Fr F w wx ∧ ∀ j, wx.cell? ⟨w.heap.size, j, none⟩ = (boxOf ⟨2, false, false, an, bn, 0, 0, imm⟩)[j]?)
  case first =>
    go_quiet (fail)
    go_wp2_with fail
    go_meet
    case rel =>
      refine ⟨by first | rw [e1] | rw [e2] | rfl, (H.out.alloc _).drewN _, ((Fr.refl F w).alloc _).drewN _, fun j => ?_⟩
      have ee : ∀ (o : Obj) (m : Nat), ((w.alloc o).drewN m).cell? ⟨w.heap.size, j, none⟩ = (w.alloc o).cell? ⟨w.heap.size, j, none⟩ := fun _ _ => rfl
      rw [ee, World.cell?_alloc_new]; rfl
  case rest =>
    obtain ⟨rfl, hM, hF, hbox⟩ := hcut
    have d1 : wc.cell? ⟨w.heap.size, 1, none⟩ = some (.bool false) := hbox 1
    have d2 : wc.cell? ⟨w.heap.size, 2, none⟩ = some (.bool false) := hbox 2
    have d3 : wc.cell? ⟨w.heap.size, 3, none⟩ = some (.int .i64 an) := hbox 3
    have hbw := World.block_lt_of_cell? wc _ d1
    have cm := hM.r_mv
    have ci := hM.r_iv
    have fi := hM.frozen 24
    have co := hM.r_ov
    have fo := hM.frozen 25
    have ca := hM.r_r an han
    rw [HA.out] at ca
    obtain ⟨ma, mc, rfl, ml1, ml2, ml3⟩ := owns_shape hM.mem
    unfold maxLen at ml2
    obtain ⟨ML, hML⟩ : ∃ ML, ML = s.mem.length := ⟨_, rfl⟩
    rw [← hML] at cm ml1
    have HML := Lib.hid hML
    have hqc : q < wc.heap.size := (hM.fb q hM.fq).2
    have HM := Lib.hid hM
    have HF := Lib.hid hF
    clear hM hF hbox hML
    have hl : ¬ p / 4 < (ML : Int) := by rw [HML.out]; omega
    obtain ⟨ia, ic, rfl, il1, il2, il3⟩ := rd_shape HM.out.inp
    unfold maxLen at il2
    have ho := HO.out
    cases hinp : s.inp with
    | nil =>
      have es : { s with inp := s.inp.tail } = s := by rw [hinp]; cases s; simp at hinp; subst hinp; rfl
      rw [es, hinp] at ho
      have HO2 := Lib.hid ho
      have hzl : s.inp.length = 0 := by rw [hinp]; rfl
      rw [hzl] at ci il1
      clear ho hinp hzl es
      go_wp2_with fail
      refine (rtold_any HM.out an han 0 ⟨by omega, by omega⟩).mono ?_; rintro e w5 ⟨rfl, hM5, hF5⟩
      have HR := Lib.hid (mv_some (w := w) (F := F) (s := s) HO2.out hM5 (fun _ h => .inl h) (HF.out.trans hF5 (fun _ _ h => h)))
      clear hM5 hF5
      go_wp2_with fail
      go_ret
      exact HR.out
    | cons y ys =>
      obtain ⟨IL, hIL⟩ : ∃ IL, IL = s.inp.length := ⟨_, rfl⟩
      have hI0 : 0 < IL := by rw [hIL, hinp]; simp
      have hIT : s.inp.tail.length = IL - 1 := by rw [hIL]; simp
      have hyw : Byte y := HM.out.fit.i y (by rw [hinp]; simp)
      rw [show s.inp.headD 0 = y by rw [hinp]; rfl] at ho
      have HO2 := Lib.hid ho
      obtain ⟨ib, io, rfl, hic⟩ := Rd_at HM.out.inp (by omega)
      have cy : wc.cell? ⟨ib, io, none⟩ = some (.int .u8 y) := by
        have := hic 0 (.int .u8 y) (by rw [hinp]; rfl)
        simpa using this
      have hdrop := HM.out.inp.drop 1 (by omega)
      have htl : (byt s.inp).drop (1 * 1) = byt s.inp.tail := by rw [hinp]; rfl
      rw [htl] at hdrop
      have hnil : IL = 1 → s.inp.tail = [] := fun h => List.eq_nil_of_length_eq_zero (by omega)
      have hfi := HM.out.fi
      rw [← hIL] at ci il1 hdrop hfi
      have HDROP := Lib.hid hdrop
      have HNIL := Lib.hid hnil
      have HFI := Lib.hid hfi
      have HIT := Lib.hid hIT
      obtain ⟨y0, y1⟩ := hyw
      have hqi : q ≠ w.heap.size := by omega
      clear ho hinp hIL hic hdrop htl hnil hfi hIT
      by_cases h1 : ic = 1
      · obtain rfl : IL = 1 := by omega
        subst h1
        have hr2 : Rd wc 1 (.slice (some ⟨ib, io, none⟩) 0 0) s.inp.tail.length (byt s.inp.tail) := by
          rw [HNIL.out rfl]
          exact ⟨by simp [byt], _, _, rfl, Nat.le_refl _, by simp [maxLen], fun _ => rfl, fun h => absurd h (by simp)⟩
        have HTK := Lib.hid (HM.out.take (.slice (some ⟨ib, io, none⟩) 0 0) hr2 (fun k hk hn => absurd hn (by rw [HNIL.out rfl]; simp)) 24 (setR_iv s cv _ _ ov _ HM.out.fit.rl))
        have HFK := Lib.hid (HF.out.setCell (p := ⟨q, 24, none⟩) (.inr H.out.fq) (.slice (some ⟨ib, io, none⟩) 0 0))
        clear hr2
        go_wp2_with fail
        go_region
        go_wp2_with fail
        refine (rtold_any (by first | exact HTK.out | exact HTK.out.drew | exact (HM.out.drewN _).take (.slice (some ⟨ib, io, none⟩) 0 0) HTK.out.inp HTK.out.fi 24 (setR_iv s cv _ _ ov _ HM.out.fit.rl)) an han y ⟨by omega, by omega⟩).mono ?_; rintro e w5 ⟨rfl, hM5, hF5⟩
        have HR := Lib.hid (mv_some (w := w) (F := F) (s := s) (iv := .slice (some ⟨ib, io, none⟩) s.inp.length 1) HO2.out hM5 (fun _ h => .inl h) (by first | exact HFK.out.trans hF5 (fun _ _ h => h) | exact HFK.out.drew.trans hF5 (fun _ _ h => h)))
        clear hM5 hF5
        go_wp2_with fail
        go_ret
        exact HR.out
      · have h1' : 1 < ic := by omega
        have h1'' : ¬ ic = 1 := h1
        have hr2 : Rd wc 1 (.slice (some ⟨ib, io + 1, none⟩) (IL - 1) (ic - 1)) s.inp.tail.length (byt s.inp.tail) := by
          rw [HIT.out]; exact HDROP.out
        have HTK := Lib.hid (HM.out.take (.slice (some ⟨ib, io + 1, none⟩) (IL - 1) (ic - 1)) hr2 (fun k hk hn => HFI.out k hk (by omega)) 24 (setR_iv s cv _ _ ov _ HM.out.fit.rl))
        have HFK := Lib.hid (HF.out.setCell (p := ⟨q, 24, none⟩) (.inr H.out.fq) (.slice (some ⟨ib, io + 1, none⟩) (IL - 1) (ic - 1)))
        clear hr2
        go_wp2_with fail
        go_region
        go_wp2_with fail
        refine (rtold_any (by first | exact HTK.out | exact HTK.out.drew) an han y ⟨by omega, by omega⟩).mono ?_; rintro e w5 ⟨rfl, hM5, hF5⟩
        have HR := Lib.hid (mv_some (w := w) (F := F) (s := s) (iv := .slice (some ⟨ib, io, none⟩) s.inp.length ic) HO2.out hM5 (fun _ h => .inl h) (by first | exact HFK.out.trans hF5 (fun _ _ h => h) | exact HFK.out.drew.trans hF5 (fun _ _ h => h)))
        clear hM5 hF5
        go_wp2_with fail
        go_ret
        exact HR.out

theorem pmove_any (h : Mach true w B q F cv mv iv ov s) (i : Ins) (hR : Right i) (h2 : i.f = 2) (hol : s.out.length ≤ 1000000) :
    Calls Try.prog 34 #[.pointer (some ⟨q, 0, none⟩), insV i] w (MvPost true w B q F cv mv iv s (s.move i)) := by
  obtain ⟨f, u, v, a, bb, c, op, imm⟩ := i
  obtain rfl : f = 2 := h2
  obtain ⟨ha, hb, hc, ho, h5⟩ := hR
  rcases h5 with ⟨e, _⟩ | ⟨e, _⟩ | ⟨_, hc0, ho0, hi0, hi1⟩ | ⟨e, _⟩ | ⟨e, _⟩
  · simp at e
  · simp at e
  · simp only at ha hb hc0 ho0 hi0 hi1
    subst hc0 ho0
    cases v
    · by_cases hq : s.place ⟨2, u, false, a, bb, 0, 0, imm⟩ = 4294967232
      · cases u
        · exact pmv_in h a bb imm ha hb hi0 hi1 hol hq
        · exact pmv_out h a bb imm ha hb hi0 hi1 hol hq
      · by_cases hq2 : s.place ⟨2, u, false, a, bb, 0, 0, imm⟩ = 4294967236 ∧ u = false
        · obtain ⟨hq2, rfl⟩ := hq2
          exact pmv_end h a bb imm ha hb hi0 hi1 hol hq2
        · by_cases h4 : s.place ⟨2, u, false, a, bb, 0, 0, imm⟩ % 4 = 0 ∧ s.place ⟨2, u, false, a, bb, 0, 0, imm⟩ / 4 < (s.mem.length : Int)
          · obtain ⟨h4, hl⟩ := h4
            cases u
            · exact pmv_load h a bb imm ha hb hi0 hi1 hol h4 hl
            · exact pmv_store h a bb imm ha hb hi0 hi1 hol h4 hl
          · exact pmv_none h u a bb imm ha hb hi0 hi1 hol hq hq2 (by omega)
    · exact pmv_byte h u a bb imm ha hb hi0 hi1 hol
  · simp at e
  · simp at e

theorem rmove_any (h : Mach false w B q F cv mv iv ov s) (i : Ins) (hR : Right i) (h2 : i.f = 2) (hol : s.out.length ≤ 1000000) :
    Calls Try.prog 42 #[.pointer (some ⟨q, 0, none⟩), insV i] w (MvPost false w B q F cv mv iv s (s.move i)) := by
  obtain ⟨f, u, v, a, bb, c, op, imm⟩ := i
  obtain rfl : f = 2 := h2
  obtain ⟨ha, hb, hc, ho, h5⟩ := hR
  rcases h5 with ⟨e, _⟩ | ⟨e, _⟩ | ⟨_, hc0, ho0, hi0, hi1⟩ | ⟨e, _⟩ | ⟨e, _⟩
  · simp at e
  · simp at e
  · simp only at ha hb hc0 ho0 hi0 hi1
    subst hc0 ho0
    cases v
    · by_cases hq : s.place ⟨2, u, false, a, bb, 0, 0, imm⟩ = 4294967232
      · cases u
        · exact rmv_in h a bb imm ha hb hi0 hi1 hol hq
        · exact rmv_out h a bb imm ha hb hi0 hi1 hol hq
      · by_cases hq2 : s.place ⟨2, u, false, a, bb, 0, 0, imm⟩ = 4294967236 ∧ u = false
        · obtain ⟨hq2, rfl⟩ := hq2
          exact rmv_end h a bb imm ha hb hi0 hi1 hol hq2
        · by_cases h4 : s.place ⟨2, u, false, a, bb, 0, 0, imm⟩ % 4 = 0 ∧ s.place ⟨2, u, false, a, bb, 0, 0, imm⟩ / 4 < (s.mem.length : Int)
          · obtain ⟨h4, hl⟩ := h4
            cases u
            · exact rmv_load h a bb imm ha hb hi0 hi1 hol h4 hl
            · exact rmv_store h a bb imm ha hb hi0 hi1 hol h4 hl
          · exact rmv_none h u a bb imm ha hb hi0 hi1 hol hq hq2 (by omega)
    · exact rmv_byte h u a bb imm ha hb hi0 hi1 hol
  · simp at e
  · simp at e
end
end Go.Proofs.Ytflinbfobadheaa
