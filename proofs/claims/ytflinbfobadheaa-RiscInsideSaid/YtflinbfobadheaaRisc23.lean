/- A slice of the law's instructions of few numbers that came in. -/
import Derived.Test.YtflinbfobadheaaRisc19
import Derived.Test.YtflinbfobadheaaRisc22
import Derived.Deep.Slices
import Derived.DataReads
namespace Go.Proofs.Ytflinbfobadheaa
open Go.RowKit Go.Waf Go.Deep Go.ChangeShapes Go.WideShapes
set_option maxRecDepth 100000
set_option linter.unusedVariables false

def InsCells (w : World) (b o : Nat) : Prop :=
  ∃ F A B C O M : Int, ∃ U V : Bool, (0 ≤ F ∧ F ≤ 255 ∧ 0 ≤ A ∧ A ≤ 255 ∧ 0 ≤ B ∧ B ≤ 255 ∧ 0 ≤ C ∧ C ≤ 255 ∧ 0 ≤ O ∧ O ≤ 255 ∧ -32768 ≤ M ∧ M ≤ 32767) ∧
    w.cell? ⟨b, o, none⟩ = some (.int .u8 F) ∧ w.cell? ⟨b, o + 1, none⟩ = some (.int .u8 A) ∧ w.cell? ⟨b, o + 2, none⟩ = some (.int .u8 B) ∧ w.cell? ⟨b, o + 3, none⟩ = some (.int .u8 C) ∧
    w.cell? ⟨b, o + 4, none⟩ = some (.int .u8 O) ∧ w.cell? ⟨b, o + 5, none⟩ = some (.bool U) ∧ w.cell? ⟨b, o + 6, none⟩ = some (.bool V) ∧ w.cell? ⟨b, o + 7, none⟩ = some (.int .i16 M)
structure InsAt (w : World) (a : Option Addr) (len cap : Nat) : Prop where
  le : len ≤ cap
  cap63 : cap ≤ 9223372036854775807
  nil : a = none → cap = 0
  cells : 0 < len → ∃ b off, a = some ⟨b, off, none⟩ ∧ b < w.heap.size ∧ ∀ i, i < len → InsCells w b (off + i * 8)
theorem InsCells.below {w w' : World} {b o : Nat} (h : InsCells w b o) (hb : Below w.heap.size w w') (hlt : b < w.heap.size) : InsCells w' b o := by
  have hbl := hb.block b hlt
  obtain ⟨F, A, B, C, O, M, U, V, hr, c⟩ := h
  refine ⟨F, A, B, C, O, M, U, V, hr, ?_⟩
  have e : ∀ j, w'.cell? ⟨b, j, none⟩ = w.cell? ⟨b, j, none⟩ := fun j => World.cell?_of_block (a := ⟨b, j, none⟩) hbl
  rw [e, e, e, e, e, e, e, e]
  exact c

section
variable {H : Type} {enc : TypeId × Value → H} {w : World} {base : Nat} {held : Bool}
theorem ins_open {fuel : Nat} {a : Option Addr} {len cap : Nat} {x : DataW H × List MemPlace}
    (h : DataW.trod enc Try.prog w base (fun _ => true) held fuel 40 [.slice a len cap] = some x) : InsAt w a len cap := by
  have ce : Try.prog.cellsOf 42 = 8 := by kernel_rfl
  have c5 : Try.prog.cellsOf 5 = 1 := by kernel_rfl
  have c4 : Try.prog.cellsOf 4 = 1 := by kernel_rfl
  have c35 : Try.prog.cellsOf 35 = 1 := by kernel_rfl
  rcases open_slice Try.underlying40 h with ⟨hcs, _⟩ | ⟨ad, len', cap', m, n, D, Pl, hcs, hb, hl, hm, hmm, _, hx⟩
  · simp at hcs
    obtain ⟨rfl, rfl, rfl⟩ := hcs
    exact ⟨by omega, by omega, fun _ => rfl, fun h => absurd h (by omega)⟩
  · simp at hcs
    obtain ⟨rfl, rfl, rfl⟩ := hcs
    simp only [if_true] at hmm
    subst hmm
    have key : ∀ i, i < len → ∃ F A B C O M : Int, ∃ U V : Bool, (0 ≤ F ∧ F ≤ 255 ∧ 0 ≤ A ∧ A ≤ 255 ∧ 0 ≤ B ∧ B ≤ 255 ∧ 0 ≤ C ∧ C ≤ 255 ∧ 0 ≤ O ∧ O ≤ 255 ∧ -32768 ≤ M ∧ M ≤ 32767) ∧
        w.cell? (ad.add (i * 8)) = some (.int .u8 F) ∧ w.cell? (ad.add (i * 8 + 1)) = some (.int .u8 A) ∧ w.cell? (ad.add (i * 8 + 2)) = some (.int .u8 B) ∧ w.cell? (ad.add (i * 8 + 3)) = some (.int .u8 C) ∧
        w.cell? (ad.add (i * 8 + 4)) = some (.int .u8 O) ∧ w.cell? (ad.add (i * 8 + 5)) = some (.bool U) ∧ w.cell? (ad.add (i * 8 + 6)) = some (.bool V) ∧ w.cell? (ad.add (i * 8 + 7)) = some (.int .i16 M) := by
      intro i hi
      obtain ⟨cs', h1, h2⟩ := hx i (by omega)
      rw [ce] at h1
      obtain ⟨_, hlen, hcell⟩ := World.cells?_some h1
      obtain ⟨xs, k, hk, hxy, _, hxl, hf⟩ := DataW.trod_struct Try.underlying42 h2
      match xs, hxl, cs', hlen with
      | [y0, y1, y2, y3, y4, y5, y6, y7], _, [v0, v1, v2, v3, v4, v5, v6, v7], _ =>
        have g0 := hf 0 _ rfl
        have g1 := hf 1 _ rfl
        have g2 := hf 2 _ rfl
        have g3 := hf 3 _ rfl
        have g4 := hf 4 _ rfl
        have g5 := hf 5 _ rfl
        have g6 := hf 6 _ rfl
        have g7 := hf 7 _ rfl
        simp [c5] at g0 g1 g2 g3 g4
        simp [c4] at g5 g6
        simp [c35] at g7
        have e0 := hcell 0 (by omega)
        have e1 := hcell 1 (by omega)
        have e2 := hcell 2 (by omega)
        have e3 := hcell 3 (by omega)
        have e4 := hcell 4 (by omega)
        have e5 := hcell 5 (by omega)
        have e6 := hcell 6 (by omega)
        have e7 := hcell 7 (by omega)
        rw [add_add] at e0 e1 e2 e3 e4 e5 e6 e7
        obtain ⟨n0, q0, _, r0⟩ := DataW.trod_int Try.underlying5 g0
        obtain ⟨n1, q1, _, r1⟩ := DataW.trod_int Try.underlying5 g1
        obtain ⟨n2, q2, _, r2⟩ := DataW.trod_int Try.underlying5 g2
        obtain ⟨n3, q3, _, r3⟩ := DataW.trod_int Try.underlying5 g3
        obtain ⟨n4, q4, _, r4⟩ := DataW.trod_int Try.underlying5 g4
        obtain ⟨n5, q5, _⟩ := DataW.trod_bool Try.underlying4 g5
        obtain ⟨n6, q6, _⟩ := DataW.trod_bool Try.underlying4 g6
        obtain ⟨n7, q7, _, r7⟩ := DataW.trod_int Try.underlying35 g7
        simp only [List.cons.injEq, and_true] at q0 q1 q2 q3 q4 q5 q6 q7
        subst q0 q1 q2 q3 q4 q5 q6 q7
        have b0 := rng_u8 r0
        have b1 := rng_u8 r1
        have b2 := rng_u8 r2
        have b3 := rng_u8 r3
        have b4 := rng_u8 r4
        have b7 := rng_i16 r7
        exact ⟨n0, n1, n2, n3, n4, n7, n5, n6, ⟨b0.1, b0.2, b1.1, b1.2, b2.1, b2.2, b3.1, b3.2, b4.1, b4.2, b7.1, b7.2⟩, by simpa using e0, by simpa using e1, by simpa using e2, by simpa using e3, by simpa using e4, by simpa using e5, by simpa using e6, by simpa using e7⟩
    refine ⟨hl, by simpa [maxLen] using hm, by simp, fun hn => ?_⟩
    obtain ⟨F, _, _, _, _, _, _, _, _, hc0, _⟩ := key 0 hn
    have hs := World.cell?_spot hc0
    obtain ⟨b, off, sp⟩ := ad
    have hsp : sp = none := by simpa [Addr.add] using hs
    subst hsp
    have hlt := World.block_lt_of_cell? w _ hc0
    refine ⟨b, off, rfl, by simpa [Addr.add] using hlt, fun i hi => ?_⟩
    obtain ⟨F, A, B, C, O, M, U, V, hr, c⟩ := key i hi
    refine ⟨F, A, B, C, O, M, U, V, hr, ?_⟩
    rw [Addr.add_lit, Addr.add_lit, Addr.add_lit, Addr.add_lit, Addr.add_lit, Addr.add_lit, Addr.add_lit, Addr.add_lit] at c
    exact c
end
end Go.Proofs.Ytflinbfobadheaa
