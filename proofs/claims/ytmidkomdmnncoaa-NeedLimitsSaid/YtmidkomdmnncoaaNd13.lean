/- Need: Units. -/
import Derived.Test.YtmidkomdmnncoaaNd12
namespace Go.Proofs.Ytmidkomdmnncoaa
open Go.RowKit Go.Waf
set_option maxRecDepth 100000
set_option linter.unusedVariables false
set_option linter.unusedSimpArgs false

/-- A counter in a box. -/
def Cnt1 (p : Nat) (s : Nat) (w : World) : Prop := w.heap[p]? = some (.cells #[.int .i64 (s : Int)] 3 (0, 0))
def ok1 (s : Nat) : Prop := s ≤ 1000000000
def ueU (e : Ex) (s : Nat) : Nat := s + (1 + e.s.size)
def usU (e : St) (s : Nat) : Nat := s + (1 + e.ni)
theorem cnt1_new {p : Nat} (s : Nat) (W W' : World) (h : Cnt1 p s W) (hb : Below W.heap.size W W') : Cnt1 p s W' := by
  show W'.heap[p]? = _
  rw [hb.block p (Array.getElem?_eq_some_iff.1 h).1]; exact h
theorem ueU_ok (e : Ex) (s : Nat) (h : ok1 (ueU e s)) : ok1 s := by have : s + (1 + e.s.size) ≤ 1000000000 := h; show s ≤ 1000000000; omega
theorem usU_ok (e : St) (s : Nat) (h : ok1 (usU e s)) : ok1 s := by have : s + (1 + e.ni) ≤ 1000000000 := h; show s ≤ 1000000000; omega
set_option maxHeartbeats 3200000 in
theorem exCb_unit (w0 : World) (B1 p : Nat) (h1 : w0.heap.size ≤ p) (h2 : p < B1) : ExCb w0 B1 (Cnt1 p) ok1 22 #[.pointer (some ⟨p, 0, none⟩)] ueU := by
  intro W e tv xv a hok hb hB hs hk
  obtain ⟨ta, tc, rfl, _, _⟩ := hok.ty.shape
  obtain ⟨xa, xc, rfl, _, _, _⟩ := hok.shape
  have hk1 : a + (1 + e.s.size) ≤ 1000000000 := hk
  have hs : W.heap[p]? = _ := hs
  have ca := cell_of_row W p 0 _ _ _ hs
  have cf := frozen_of_row W p 0 _ _ hs
  have ca2 : W.cell? ⟨p, 0, none⟩ = some (.int .i64 (a : Int)) := ca
  have hl := World.block_lt_of_cell? _ _ ca2
  have hl2 : p < W.heap.size := hl
  unfold exV
  obtain ⟨es, he⟩ : ∃ s, s = e.s := ⟨_, rfl⟩
  have HU := Lib.hid (show ueU e a = a + (1 + es.size) from by rw [he]; rfl)
  rw [HU.out, ← he]
  rw [← he] at hk1
  have HA := Lib.hid hs
  have HBq := Lib.hid hb
  clear hs hk hb hok ca hl he
  simp only [List.append_toArray, Array.append_singleton, List.cons_append, List.nil_append, List.push_toArray]
  go_enter Try.func22, Try.ntmps22
  go_wp2_with fail
  refine bodyPost_end (results_none rfl _ _ _) rfl ?_
  have hv : (a : Int) + (1 + (es.size : Int)) = ((a + (1 + es.size) : Nat) : Int) := by omega
  rw [hv]
  exact ⟨rfl, ((Fr.refl (FF w0.heap.size B1) W).setCell (p := ⟨p, 0, none⟩) (Or.inr (show FF w0.heap.size B1 p from ⟨h1, h2⟩)) _).alloc _, blk_alloc (by rw [heap_setCell_same _ p 0 _ _ _ HA.out]; rfl) _⟩
set_option maxHeartbeats 3200000 in
theorem stCb_unit (w0 : World) (B1 p : Nat) (h1 : w0.heap.size ≤ p) (h2 : p < B1) : StCb w0 B1 (Cnt1 p) ok1 21 #[.pointer (some ⟨p, 0, none⟩)] usU := by
  intro W e xv bv iv a hok hb hB hs hk
  obtain ⟨⟨xa, xc, rfl, _, _, _⟩, ⟨ia, ic, rfl, i1, i2, _⟩, ba, bc, rfl, _, _, _⟩ := hok.open
  have hk1 : a + (1 + e.ni) ≤ 1000000000 := hk
  have hs : W.heap[p]? = _ := hs
  have ca := cell_of_row W p 0 _ _ _ hs
  have cf := frozen_of_row W p 0 _ _ hs
  have ca2 : W.cell? ⟨p, 0, none⟩ = some (.int .i64 (a : Int)) := ca
  have hl := World.block_lt_of_cell? _ _ ca2
  have hl2 : p < W.heap.size := hl
  unfold stV
  obtain ⟨en, he⟩ : ∃ s, s = e.ni := ⟨_, rfl⟩
  have HU := Lib.hid (show usU e a = a + (1 + en) from by rw [he]; rfl)
  rw [HU.out, ← he]
  rw [← he] at hk1 i1
  have HA := Lib.hid hs
  have HBq := Lib.hid hb
  clear hs hk hb hok ca hl he
  simp only [List.append_toArray, Array.append_singleton, List.cons_append, List.nil_append, List.push_toArray]
  go_enter Try.func21, Try.ntmps21
  go_wp2_with fail
  refine bodyPost_end (results_none rfl _ _ _) rfl ?_
  have hv : (a : Int) + (1 + (en : Int)) = ((a + (1 + en) : Nat) : Int) := by omega
  rw [hv]
  exact ⟨rfl, ((Fr.refl (FF w0.heap.size B1) W).setCell (p := ⟨p, 0, none⟩) (Or.inr (show FF w0.heap.size B1 p from ⟨h1, h2⟩)) _).alloc _, blk_alloc (by rw [heap_setCell_same _ p 0 _ _ _ HA.out]; rfl) _⟩
def unitsM (np qn : Nat) (qf : Nat → St) (nb : Nat) (f : Nat → St) : Nat := runMo ueU usU np qn qf nb f np
set_option maxHeartbeats 12800000 in
theorem units_prog (w : World) (nm : ByteArray) (va : Option Addr) (nv vc : Nat) (pa : Option Addr) (np pc : Nat) (ba : Option Addr) (nb bc : Nat) (qa : Option Addr) (qn qc : Nat) (qf : Nat → St) (f : Nat → St)
    (h1 : np ≤ pc ∧ pc ≤ 9223372036854775807 ∧ np ≤ 1000) (h2 : nb ≤ bc ∧ bc ≤ 9223372036854775807) (h3 : qn ≤ qc ∧ qc ≤ 9223372036854775807) (hp : PrsAt w pa np qa qn qc) (hq : StsAt w qa qn qf) (hx : StsAt w ba nb f) (hk : ok1 (unitsM np qn qf nb f)) :
    Calls Try.prog 11 #[(Mo.mk nm va nv vc pa np pc ba nb bc).val] w fun en w' => en = .returned (.int .i64 (unitsM np qn qf nb f : Int)) ∧ Below w.heap.size w w' := by
  have HW := Lib.hid (fun W hb hB hs => walkModule_prog w (w.heap.size + 2) (Cnt1 (w.heap.size + 1)) ok1 21 #[.pointer (some ⟨w.heap.size + 1, 0, none⟩)] usU 22 #[.pointer (some ⟨w.heap.size + 1, 0, none⟩)] ueU cnt1_new ueU_ok usU_ok (exCb_unit w (w.heap.size + 2) (w.heap.size + 1) (by omega) (by omega)) (stCb_unit w (w.heap.size + 2) (w.heap.size + 1) (by omega) (by omega))
    (enters_of Try.func22 (by kernel_rfl) rfl) (enters_of Try.func21 (by kernel_rfl) rfl) W nm va nv vc pa np pc ba nb bc qa qn qc qf f np h1 h2 h3 hp hq hx hb hB hs hk)
  obtain ⟨r, hr⟩ : ∃ r, r = unitsM np qn qf nb f := ⟨_, rfl⟩
  have hr2 : runMo ueU usU np qn qf nb f np = r := hr.symm
  rw [← hr]
  rw [hr2] at HW
  have HP := Lib.hid hp
  obtain ⟨p1, p2, p3⟩ := h1
  obtain ⟨q1, q2⟩ := h2
  unfold Mo.val Mo.arr at HW ⊢
  clear hr hr2 hx hk hp hq
  go_enter Try.func11, Try.ntmps11
  go_wp2_with fail
  obtain ⟨w3, hw3⟩ : ∃ w3 : World, w3 = (w.alloc (.cells #[.string nm, .slice none 0 0, .slice none 0 0, .slice none 0 0, .slice none 0 0, .slice va nv vc, .slice pa np pc, .slice ba nb bc] 30)).alloc (.cells #[.int .i64 (np : Int)] 3) := ⟨_, rfl⟩
  rw [← hw3]
  have b3 : Below w.heap.size w w3 := by rw [hw3]; exact ((Below.refl _ _).alloc (Nat.le_refl _) _).alloc (by simp) _
  have z3 : w3.heap.size = w.heap.size + 2 := by rw [hw3]; simp
  have m3 : w3.heap[w.heap.size]? = some (.cells #[.string nm, .slice none 0 0, .slice none 0 0, .slice none 0 0, .slice none 0 0, .slice va nv vc, .slice pa np pc, .slice ba nb bc] 30 (0, 0)) := by rw [hw3]; exact blk_alloc (heap_alloc_new w _) _
  have n3 : w3.heap[w.heap.size + 1]? = some (.cells #[.int .i64 (np : Int)] 3 (0, 0)) := by rw [hw3]; exact atNew (by simp)
  have HI3 := Lib.hid (And.intro b3 (And.intro m3 n3))
  clear b3 m3 n3 hw3
  go_loopw [16] (fun y wr => ∃ j : Nat, j ≤ np ∧ y = .int .i64 (j : Int) ∧ w3.heap.size ≤ wr.heap.size ∧ Below w.heap.size w wr ∧ wr.heap[w.heap.size]? = some (.cells #[.string nm, .slice none 0 0, .slice none 0 0, .slice none 0 0, .slice none 0 0, .slice va nv vc, .slice pa np pc, .slice ba nb bc] 30 (0, 0)) ∧ wr.heap[w.heap.size + 1]? = some (.cells #[.int .i64 (np : Int)] 3 (0, 0))) (fun y _ => np - (intOf y).toNat)
  case atStart => exact ⟨0, by omega, rfl, Nat.le_refl _, HI3.out.1, HI3.out.2.1, HI3.out.2.2⟩
  case round =>
    obtain ⟨j, hj, rfl, hsr, hb, hm, hn⟩ := hrel
    obtain ⟨wi, rfl⟩ : ∃ wi : World, wi = wr := ⟨_, rfl⟩
    have HB := Lib.hid hb
    have HM := Lib.hid hm
    have HN := Lib.hid hn
    have cn : wi.cell? ⟨w.heap.size + 1, 0, none⟩ = some (.int .i64 (np : Int)) := rowC hn 0 _
    have fn := frozen_of_row wi (w.heap.size + 1) 0 _ _ hn
    have hlt2 : w.heap.size + 1 < wi.heap.size := by omega
    by_cases hlt : j < np
    · obtain ⟨b, o, rfl, hc⟩ := HP.out (by omega)
      obtain ⟨d0, d1, d2, d3, d4, d5, d6, d7, d8, d9⟩ := (hc j hlt).below hb
      clear hc hb hm hn
      go_wp2_with fail
      go_roundw
      case rel =>
        refine ⟨j + 1, by omega, by go_num, by simp [World.setCell]; omega, (HB.out.setCell (p := ⟨w.heap.size + 1, 0, none⟩) (by simp) _).alloc (by simp [World.setCell]; omega) _, blk_alloc (blk_set_other HM.out _ _ (by simp)) _, blk_alloc (by rw [heap_setCell_same _ (w.heap.size + 1) 0 _ _ _ HN.out]; rfl) _⟩
      case measure => simp [intOf]; omega
    · obtain rfl : j = np := by omega
      have cm : ∀ (i : Nat) (u : Value), (#[Value.string nm, .slice none 0 0, .slice none 0 0, .slice none 0 0, .slice none 0 0, .slice va nv vc, .slice pa j pc, .slice ba nb bc] : Array Value)[i]? = some u → wi.cell? ⟨w.heap.size, i, none⟩ = some u := fun i u h => rowC hm i u h
      have m0 := cm 0 _ rfl
      have m1 := cm 1 _ rfl
      have m2 := cm 2 _ rfl
      have m3 := cm 3 _ rfl
      have m4 := cm 4 _ rfl
      have m5 := cm 5 _ rfl
      have m6 := cm 6 _ rfl
      have m7 := cm 7 _ rfl
      clear cm hb hm hn
      go_wp2_with fail
      refine (HW.out wi HB.out (by omega) HN.out).mono ?_
      rintro en w5 ⟨rfl, hf5, hs5⟩
      have hb5 := Fr.old HB.out hf5
      have c5 : w5.cell? ⟨w.heap.size + 1, 0, none⟩ = some (.int .i64 (r : Int)) := rowC hs5 0 _
      have HB5 := Lib.hid hb5
      clear hf5 hs5 hb5 m0 m1 m2 m3 m4 m5 m6 m7 cn fn
      unfold unitE
      go_wp2_with fail
      go_ret
      exact ⟨rfl, HB5.out⟩
end Go.Proofs.Ytmidkomdmnncoaa
