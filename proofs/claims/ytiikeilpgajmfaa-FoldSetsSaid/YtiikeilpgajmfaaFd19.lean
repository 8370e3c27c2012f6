/- Fold: an expression that came in. -/
import Derived.Test.YtiikeilpgajmfaaFd18
import Derived.Deep.Slices
import Derived.DataReads
namespace Go.Proofs.Ytiikeilpgajmfaa
open Go.RowKit Go.Waf Go.Deep Go.ChangeShapes Go.WideShapes
set_option maxRecDepth 100000
set_option linter.unusedVariables false

section
variable {H : Type} {enc : TypeId × Value → H} {w : World} {base : Nat} {held : Bool}
theorem slice_kids {t e fuel : Nat} {cs : List Value} {x : DataW H × List MemPlace} (ht : Try.prog.underlying t = some (.slice e)) (h : DataW.trod enc Try.prog w base (fun _ => true) held fuel t cs = some x) :
    cs = [.slice none 0 0] ∨ ∃ (a : Addr) (len cap n : Nat), n < fuel ∧ cs = [.slice (some a) len cap] ∧ len ≤ cap ∧ cap ≤ maxLen ∧
      ∀ i, i < len → ∃ cs' y, w.cells? base (a.add (i * Try.prog.cellsOf e)) (Try.prog.cellsOf e) = some cs' ∧ DataW.trod enc Try.prog w base (fun _ => true) held n e cs' = some y := by
  rcases DataW.trod_slice ht h with ⟨h0, _⟩ | ⟨a, len, cap, elems, rest, n, hn, hcs, _, _, hl, hm, hlen, hel, _, _⟩
  · exact .inl h0
  · refine .inr ⟨a, len, cap, n, by omega, hcs, hl, hm, fun i hi => ?_⟩
    have hk := hel i hi
    rw [List.getElem?_eq_getElem (by omega : i < elems.length)] at hk
    obtain ⟨cs', h1, h2⟩ := Option.bind_eq_some_iff.1 hk
    exact ⟨cs', _, h1, h2⟩
theorem ty_open : ∀ (fuel : Nat) (cs : List Value) (x : DataW H × List MemPlace), DataW.trod enc Try.prog w base (fun _ => true) held fuel 24 cs = some x →
    ∃ (t : Ty) (v : Value), cs = [.int .i64 t.form, .int .i64 t.num, .string t.name, v] ∧ TyOk w t v := by
  intro fuel
  induction fuel using Nat.strongRecOn with
  | _ fuel ih =>
  intro cs x h
  have ce : Try.prog.cellsOf 24 = 4 := by kernel_rfl
  have ci : Try.prog.cellsOf 3 = 1 := by kernel_rfl
  have cst : Try.prog.cellsOf 9 = 1 := by kernel_rfl
  have csl : Try.prog.cellsOf 22 = 1 := by kernel_rfl
  obtain ⟨xs, k, hk, _, hlen, hxl, hf⟩ := DataW.trod_struct Try.underlying24 h
  rw [ce] at hlen
  match xs, hxl, cs, hlen with
  | [y0, y1, y2, y3], _, [v0, v1, v2, v3], _ =>
    have g0 := hf 0 _ rfl
    have g1 := hf 1 _ rfl
    have g2 := hf 2 _ rfl
    have g3 := hf 3 _ rfl
    simp [ci] at g0 g1
    simp [cst] at g2
    simp [csl] at g3
    obtain ⟨n0, q0, _, _⟩ := DataW.trod_int Try.underlying3 g0
    obtain ⟨n1, q1, _, _⟩ := DataW.trod_int Try.underlying3 g1
    obtain ⟨n2, q2, _, _⟩ := DataW.trod_string Try.underlying9 g2
    simp only [List.cons.injEq, and_true] at q0 q1 q2
    subst q0 q1 q2
    rcases slice_kids Try.underlying22 g3 with hv | ⟨a, len, cap, n, hn, hv, hl, hm, hx⟩
    · simp only [List.cons.injEq, and_true] at hv
      subst hv
      exact ⟨.mk n0 n1 n2 0 (fun _ => .none), _, rfl, none, 0, rfl, Nat.le_refl _, by decide, fun h => absurd h (by omega)⟩
    · simp only [List.cons.injEq, and_true] at hv
      subst hv
      have key : ∀ i, ∃ t : Ty, i < len → ∃ u, TyOk w t u ∧ w.cell? (a.add (i * 4)) = some (.int .i64 t.form) ∧ w.cell? (a.add (i * 4 + 1)) = some (.int .i64 t.num) ∧ w.cell? (a.add (i * 4 + 2)) = some (.string t.name) ∧ w.cell? (a.add (i * 4 + 3)) = some u := by
        intro i
        by_cases hi : i < len
        · obtain ⟨cs', y, h1, h2⟩ := hx i hi
          rw [ce] at h1
          obtain ⟨_, hlen', hcell⟩ := World.cells?_some h1
          obtain ⟨t, u, hcs', hok⟩ := ih n (by omega) cs' y h2
          subst hcs'
          have e0 := hcell 0 (by omega)
          have e1 := hcell 1 (by omega)
          have e2 := hcell 2 (by omega)
          have e3 := hcell 3 (by omega)
          rw [add_add] at e0 e1 e2 e3
          exact ⟨t, fun _ => ⟨u, hok, by simpa using e0, by simpa using e1, by simpa using e2, by simpa using e3⟩⟩
        · exact ⟨.none, fun h => absurd h hi⟩
      obtain ⟨of, hof⟩ := Classical.skolem.1 key
      refine ⟨.mk n0 n1 n2 len of, _, rfl, some a, cap, rfl, hl, by simpa [maxLen] using hm, fun hp => ?_⟩
      obtain ⟨_, _, hc0, _⟩ := hof 0 hp
      have hs := World.cell?_spot hc0
      obtain ⟨b, off, sp⟩ := a
      have hsp : sp = none := by simpa [Addr.add] using hs
      subst hsp
      refine ⟨b, off, rfl, fun j hj => ?_⟩
      obtain ⟨u, hu, c0, c1, c2, c3⟩ := hof j hj
      rw [Addr.add_lit] at c0 c1 c2 c3
      exact ⟨u, hu, c0, c1, c2, c3⟩
theorem ex_open : ∀ (fuel : Nat) (cs : List Value) (x : DataW H × List MemPlace), DataW.trod enc Try.prog w base (fun _ => true) held fuel 27 cs = some x →
    ∃ (e : Ex) (tv xv : Value), cs = [.int .i64 e.op, .int .i64 e.t.form, .int .i64 e.t.num, .string e.t.name, tv, .int .i32 e.i, .string e.s, xv] ∧ ExOk w e tv xv ∧ Fit e := by
  intro fuel
  induction fuel using Nat.strongRecOn with
  | _ fuel ih =>
  intro cs x h
  have ce : Try.prog.cellsOf 27 = 8 := by kernel_rfl
  have ct : Try.prog.cellsOf 24 = 4 := by kernel_rfl
  have ci : Try.prog.cellsOf 3 = 1 := by kernel_rfl
  have c32 : Try.prog.cellsOf 21 = 1 := by kernel_rfl
  have cst : Try.prog.cellsOf 9 = 1 := by kernel_rfl
  have csl : Try.prog.cellsOf 25 = 1 := by kernel_rfl
  obtain ⟨xs, k, hk, _, hlen, hxl, hf⟩ := DataW.trod_struct Try.underlying27 h
  rw [ce] at hlen
  match xs, hxl, cs, hlen with
  | [y0, y1, y2, y3, y4], _, [v0, v1, v2, v3, v4, v5, v6, v7], _ =>
    have g0 := hf 0 _ rfl
    have g1 := hf 1 _ rfl
    have g2 := hf 2 _ rfl
    have g3 := hf 3 _ rfl
    have g4 := hf 4 _ rfl
    simp [ci] at g0
    simp [ct] at g1
    simp [c32] at g2
    simp [cst] at g3
    simp [csl] at g4
    obtain ⟨n0, q0, _, _⟩ := DataW.trod_int Try.underlying3 g0
    obtain ⟨t, tv, q1, hty⟩ := ty_open k _ _ g1
    obtain ⟨n2, q2, _, r2⟩ := DataW.trod_int Try.underlying21 g2
    obtain ⟨n3, q3, _, _⟩ := DataW.trod_string Try.underlying9 g3
    simp only [List.cons.injEq, and_true] at q0 q1 q2 q3
    obtain ⟨p1, p2, p3, p4⟩ := q1
    subst q0 p1 p2 p3 p4 q2 q3
    have b2 := rng_i32 r2
    rcases slice_kids Try.underlying25 g4 with hv | ⟨a, len, cap, n, hn, hv, hl, hm, hx⟩
    · simp only [List.cons.injEq, and_true] at hv
      subst hv
      exact ⟨.mk n0 t n2 n3 0 (fun _ => .none), _, _, rfl, ⟨hty, none, 0, rfl, Nat.le_refl _, by decide, fun h => absurd h (by omega)⟩, b2, fun j hj => absurd hj (by omega)⟩
    · simp only [List.cons.injEq, and_true] at hv
      subst hv
      have key : ∀ i, ∃ e : Ex, i < len → ∃ tu xu, (ExOk w e tu xu ∧ Fit e) ∧ w.cell? (a.add (i * 8)) = some (.int .i64 e.op) ∧ w.cell? (a.add (i * 8 + 1)) = some (.int .i64 e.t.form) ∧ w.cell? (a.add (i * 8 + 2)) = some (.int .i64 e.t.num) ∧ w.cell? (a.add (i * 8 + 3)) = some (.string e.t.name) ∧
          w.cell? (a.add (i * 8 + 4)) = some tu ∧ w.cell? (a.add (i * 8 + 5)) = some (.int .i32 e.i) ∧ w.cell? (a.add (i * 8 + 6)) = some (.string e.s) ∧ w.cell? (a.add (i * 8 + 7)) = some xu := by
        intro i
        by_cases hi : i < len
        · obtain ⟨cs', y, h1, h2⟩ := hx i hi
          rw [ce] at h1
          obtain ⟨_, hlen', hcell⟩ := World.cells?_some h1
          obtain ⟨e, tu, xu, hcs', hok⟩ := ih n (by omega) cs' y h2
          subst hcs'
          have e0 := hcell 0 (by omega)
          have e1 := hcell 1 (by omega)
          have e2 := hcell 2 (by omega)
          have e3 := hcell 3 (by omega)
          have e4 := hcell 4 (by omega)
          have e5 := hcell 5 (by omega)
          have e6 := hcell 6 (by omega)
          have e7 := hcell 7 (by omega)
          rw [add_add] at e0 e1 e2 e3 e4 e5 e6 e7
          exact ⟨e, fun _ => ⟨tu, xu, hok, by simpa using e0, by simpa using e1, by simpa using e2, by simpa using e3, by simpa using e4, by simpa using e5, by simpa using e6, by simpa using e7⟩⟩
        · exact ⟨.none, fun h => absurd h hi⟩
      obtain ⟨of, hof⟩ := Classical.skolem.1 key
      refine ⟨.mk n0 t n2 n3 len of, _, _, rfl, ⟨hty, some a, cap, rfl, hl, by simpa [maxLen] using hm, fun hp => ?_⟩, b2, fun j hj => ?_⟩
      · obtain ⟨_, _, _, hc0, _⟩ := hof 0 hp
        have hs := World.cell?_spot hc0
        obtain ⟨b, off, sp⟩ := a
        have hsp : sp = none := by simpa [Addr.add] using hs
        subst hsp
        refine ⟨b, off, rfl, fun j hj => ?_⟩
        obtain ⟨tu, xu, hu, c0, c1, c2, c3, c4, c5, c6, c7⟩ := hof j hj
        rw [Addr.add_lit] at c0 c1 c2 c3 c4 c5 c6 c7
        exact ⟨tu, xu, hu.1, ⟨c0, c1, c2, c3, c4, c5, c6, c7⟩⟩
      · obtain ⟨tu, xu, hu, _⟩ := hof j hj
        exact hu.2
end
end Go.Proofs.Ytiikeilpgajmfaa
