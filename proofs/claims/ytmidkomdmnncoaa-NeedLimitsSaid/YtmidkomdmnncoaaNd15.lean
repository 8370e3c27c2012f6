/- Need: Most, of a whole module. -/
import Derived.Test.YtmidkomdmnncoaaNd14
import Derived.Laws.EntriesVeiled
namespace Go.Proofs.Ytmidkomdmnncoaa
open Go.RowKit Go.Waf
set_option maxRecDepth 100000
set_option linter.unusedVariables false
set_option linter.unusedSimpArgs false

def mostM (np qn : Nat) (qf : Nat → St) (nb : Nat) (f : Nat → St) : Nat := runMo ueR usR np qn qf nb f 0
set_option maxHeartbeats 12800000 in
theorem most_prog (w : World) (nm : ByteArray) (va : Option Addr) (nv vc : Nat) (pa : Option Addr) (np pc : Nat) (ba : Option Addr) (nb bc : Nat) (qa : Option Addr) (qn qc : Nat) (qf : Nat → St) (f : Nat → St)
    (h1 : np ≤ pc ∧ pc ≤ 9223372036854775807 ∧ np ≤ 1000) (h2 : nb ≤ bc ∧ bc ≤ 9223372036854775807) (h3 : qn ≤ qc ∧ qc ≤ 9223372036854775807) (hp : PrsAt w pa np qa qn qc) (hq : StsAt w qa qn qf) (hx : StsAt w ba nb f) (hk : okR (mostM np qn qf nb f)) :
    Calls Try.prog 10 #[(Mo.mk nm va nv vc pa np pc ba nb bc).val] w fun en w' => en = .returned (.int .i64 (mostM np qn qf nb f : Int)) ∧ Below w.heap.size w w' := by
  obtain ⟨w1, hw1⟩ : ∃ w1 : World, w1 = w.alloc (.cells #[.string nm, .slice none 0 0, .slice none 0 0, .slice none 0 0, .slice none 0 0, .slice va nv vc, .slice pa np pc, .slice ba nb bc] 30) := ⟨_, rfl⟩
  have b1 : Below w.heap.size w w1 := by rw [hw1]; exact (Below.refl _ _).alloc (Nat.le_refl _) _
  have z1 : w1.heap.size = w.heap.size + 1 := by rw [hw1]; simp
  have m1 : w1.heap[w.heap.size]? = some (.cells #[.string nm, .slice none 0 0, .slice none 0 0, .slice none 0 0, .slice none 0 0, .slice va nv vc, .slice pa np pc, .slice ba nb bc] 30 (0, 0)) := by rw [hw1]; exact heap_alloc_new w _
  have hp1 := hp.below b1
  have hq1 := StsAt.below hq b1 (Nat.le_refl _)
  have hx1 := StsAt.below hx b1 (Nat.le_refl _)
  have HQ := Lib.hid (fun W s hb hB hs hk => walk_prog w1 (w.heap.size + 3) (NoteAt (w.heap.size + 1 + 1) (w.heap.size + 1)) okR 16 #[.pointer (some ⟨w.heap.size + 1 + 1, 0, none⟩)] usR 18 #[] ueR noteAt_new (fun _ _ h => h) usR_ok (exCb_most3 _ _ _ _) (stCb_most _ _ _ _ (by omega) (by omega) (by omega))
    (enters_of Try.func18 (by kernel_rfl) rfl) (enters_of Try.func16 (by kernel_rfl) rfl) (nestS qn qf + 1) qn qf (by omega) W qa qc s h3.1 h3.2 hq1 hb hB hs hk)
  obtain ⟨G, hG⟩ : ∃ G : Nat → Nat, G = runSts ueR usR qn qf := ⟨_, rfl⟩
  obtain ⟨sp, hsp⟩ : ∃ sp : Nat → Nat, sp = fun j => iter (fun _ => G) j 0 := ⟨_, rfl⟩
  have hrm : mostM np qn qf nb f = runSts ueR usR nb f (sp np) := by rw [hsp, hG]; rfl
  rw [hrm] at hk ⊢
  have HK := Lib.hid (show ∀ j, j ≤ np → okR (sp j) from fun j hj => by
    rw [hsp]; exact iter_ok (fun j _ s h => by rw [hG] at h; exact runSts_ok (fun _ _ h => h) usR_ok qn qf s h) hj (by rw [hsp] at hk; exact runSts_ok (fun _ _ h => h) usR_ok nb f _ hk))
  have HGS := Lib.hid (show ∀ j, sp (j + 1) = G (sp j) from fun j => by rw [hsp]; rfl)
  have HS0 := Lib.hid (show sp 0 = 0 from by rw [hsp]; rfl)
  rw [← hG] at HQ
  have H := Lib.hid (fun W hb hB hs => walk_prog w1 (w.heap.size + 3) (NoteAt (w.heap.size + 1 + 1) (w.heap.size + 1)) okR 16 #[.pointer (some ⟨w.heap.size + 1 + 1, 0, none⟩)] usR 19 #[] ueR noteAt_new (fun _ _ h => h) usR_ok (exCb_most4 _ _ _ _) (stCb_most _ _ _ _ (by omega) (by omega) (by omega))
    (enters_of Try.func19 (by kernel_rfl) rfl) (enters_of Try.func16 (by kernel_rfl) rfl) (nestS nb f + 1) nb f (by omega) W ba bc (sp np) h2.1 h2.2 hx1 hb hB hs hk)
  obtain ⟨r, hr⟩ : ∃ r, r = runSts ueR usR nb f (sp np) := ⟨_, rfl⟩
  rw [← hr] at H ⊢
  have HP := Lib.hid hp1
  obtain ⟨p1, p2, p3⟩ := h1
  obtain ⟨q1, q2⟩ := h2
  obtain ⟨r1, r2⟩ := h3
  have HM1 := Lib.hid m1
  have HB1 := Lib.hid b1
  have HW1 := Lib.hid hw1
  unfold Mo.val Mo.arr
  clear hr hx hk hp hq hG hsp hrm hp1 hq1 hx1 m1 b1 hw1
  go_enter Try.func10, Try.ntmps10
  go_wp2_with fail
  rw [← HW1.out]
  obtain ⟨w3, hw3⟩ : ∃ w3 : World, w3 = (w1.alloc (.cells #[.int .i64 0] 3)).alloc (.cells #[.func (.func 15) #[] #[.pointer (some ⟨w.heap.size + 1, 0, none⟩)]] 60) := ⟨_, rfl⟩
  rw [← hw3]
  have b3 : Below w1.heap.size w1 w3 := by rw [hw3]; exact ((Below.refl _ _).alloc (Nat.le_refl _) _).alloc (by simp) _
  have z3 : w3.heap.size = w.heap.size + 3 := by rw [hw3]; simp; omega
  have n3 : NoteAt (w.heap.size + 1 + 1) (w.heap.size + 1) (sp 0) w3 := by
    rw [HS0.out, hw3]
    exact ⟨atNew (by simp; omega), blk_alloc (atNew (by omega)) _⟩
  have HN3 := Lib.hid n3
  have HB3 := Lib.hid b3
  clear n3 b3 hw3
  go_loopw [13] (fun y wr => ∃ j : Nat, j ≤ np ∧ y = .int .i64 (j : Int) ∧ NoteAt (w.heap.size + 1 + 1) (w.heap.size + 1) (sp j) wr ∧ Fr (FF w1.heap.size (w.heap.size + 3)) w3 wr) (fun y _ => np - (intOf y).toNat)
  case atStart => exact ⟨0, by omega, rfl, HN3.out, Fr.refl _ _⟩
  case round =>
    obtain ⟨j, hj, rfl, hs, hf⟩ := hrel
    obtain ⟨wi, rfl⟩ : ∃ wi : World, wi = wr := ⟨_, rfl⟩
    have hbi := Fr.old HB3.out hf
    have hzi : w.heap.size + 3 ≤ wi.heap.size := by rw [← z3]; exact hf.size
    have mi : wi.heap[w.heap.size]? = _ := (hbi.block _ (by omega)).trans HM1.out
    have m7 := rowC mi 7 _
    clear mi
    by_cases hlt : j < np
    · obtain ⟨b, o, rfl, hc⟩ := HP.out (by omega)
      obtain ⟨d0, d1, d2, d3, d4, d5, d6, d7, d8, d9⟩ := (hc j hlt).below hbi
      have HCJ := Lib.hid (fun W hb hB hs => HQ.out W (sp j) hb hB hs (by rw [← HGS.out j]; exact HK.out (j + 1) (by omega)))
      rw [← HGS.out j] at HCJ
      have hkj := HK.out (j + 1) (by omega)
      have HSJ := Lib.hid hs
      have HFJ := Lib.hid hf
      have HBJ := Lib.hid hbi
      clear hc hs hf hbi
      go_wp2_with fail
      obtain ⟨w4, hw4⟩ : ∃ w4 : World, w4 = wi.alloc (.cells #[.string { data := #[] }, .bool false, .slice none 0 0, .int .i64 0, .int .i64 0, .string { data := #[] }, .slice none 0 0, .slice none 0 0, .slice qa qn qc, .slice none 0 0] 50) := ⟨_, rfl⟩
      rw [← hw4]
      have hb4 : Below wi.heap.size wi w4 := by rw [hw4]; exact (Below.refl _ _).alloc (Nat.le_refl _) _
      have hz4 : w.heap.size + 3 ≤ w4.heap.size := Nat.le_trans hzi hb4.size
      have HZ4 := Lib.hid (show ∀ V, Fr (FF w1.heap.size (w.heap.size + 3)) w4 V → V.cell? ⟨wi.heap.size, 9, none⟩ = some (.slice none 0 0) from fun V hv => by
        have e1 : w4.cell? ⟨wi.heap.size, 9, none⟩ = some (.slice none 0 0) := rowC (by rw [hw4]; exact heap_alloc_new wi _) 9 _
        have hl := World.block_lt_of_cell? _ _ e1
        exact (hv.cell (p := ⟨wi.heap.size, 9, none⟩) hl (fun h => by have := h.2; simp at this; omega)).trans e1)
      have HB4 := Lib.hid hb4
      clear hw4 hb4
      refine (HCJ.out w4 (HBJ.out.trans (HB4.out.mono HBJ.out.size)) hz4 (noteAt_new _ _ _ HSJ.out HB4.out)).mono ?_
      rintro en w5 ⟨rfl, hf5, hs5⟩
      have g1 := HZ4.out w5 hf5
      have HF5 := Lib.hid (show Fr (FF w1.heap.size (w.heap.size + 3)) w3 w5 from (HFJ.out.trans (F' := FF w1.heap.size (w.heap.size + 3)) (Fr.of_new HB4.out) (fun i _ h => h)).trans hf5 (fun i _ h => h))
      have cq : w5.cell? ⟨w.heap.size + 1 + 1, 0, none⟩ = some (.func (.func 15) #[] #[.pointer (some ⟨w.heap.size + 1, 0, none⟩)]) := rowC hs5.1 0 _
      have HS5 := Lib.hid hs5
      clear hf5 hs5
      unfold unitE
      go_wp2_with fail
      refine (note_prog w1 w5 none 0 0 (fun _ => .none) (w.heap.size + 1) (sp (j + 1)) (Nat.le_refl _) (by omega) (fun h => absurd h (by omega)) (Fr.old HB3.out HF5.out) (by omega) HS5.out.2 hkj).mono ?_
      rintro en w6 ⟨rfl, hf6, hs6⟩
      have HF6 := Lib.hid (show Fr (FF w1.heap.size (w.heap.size + 3)) w3 w6 from HF5.out.trans (F' := fun k => k = w.heap.size + 1) hf6 (fun i _ h => by subst h; exact ⟨by omega, by omega⟩))
      have hq6 : w6.heap[w.heap.size + 1 + 1]? = _ := (hf6.block _ (Array.getElem?_eq_some_iff.1 HS5.out.1).1 (by omega)).trans HS5.out.1
      have HS6 := Lib.hid (show NoteAt (w.heap.size + 1 + 1) (w.heap.size + 1) (sp (j + 1)) w6 from ⟨hq6, hs6⟩)
      clear hf6 hs6 hq6
      unfold unitE
      go_wp2_with fail
      go_roundw
      case rel => exact ⟨j + 1, by omega, by go_num, HS6.out, HF6.out⟩
      case measure => simp [intOf]; omega
    · obtain rfl : j = np := by omega
      have HSJ := Lib.hid hs
      have HFJ := Lib.hid hf
      have HBJ := Lib.hid hbi
      clear hs hf hbi
      go_wp2_with fail
      refine (H.out wi HBJ.out hzi HSJ.out).mono ?_
      rintro en W2 ⟨rfl, hf2, hs2⟩
      have HF := Lib.hid (Fr.old HBJ.out hf2)
      have c5 : W2.cell? ⟨w.heap.size + 1, 0, none⟩ = some (.int .i64 (r : Int)) := rowC hs2.2 0 _
      clear hf2 hs2
      unfold unitE
      go_wp2_with fail
      go_ret
      exact ⟨rfl, HB1.out.trans (HF.out.mono (by omega))⟩
end Go.Proofs.Ytmidkomdmnncoaa
