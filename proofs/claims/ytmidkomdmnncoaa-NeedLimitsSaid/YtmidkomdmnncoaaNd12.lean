/- Need: WalkModule, with procedures that share one body. -/
import Derived.Test.YtmidkomdmnncoaaNd11
namespace Go.Proofs.Ytmidkomdmnncoaa
open Go.RowKit Go.Waf
set_option maxRecDepth 100000
set_option linter.unusedVariables false
set_option linter.unusedSimpArgs false

/-- A procedure at a place: nothing but a body. -/
def PrAt (w : World) (b o : Nat) (qa : Option Addr) (qn qc : Nat) : Prop := w.cell? ⟨b, o, none⟩ = some (.string { data := #[] }) ∧ w.cell? ⟨b, o + 1, none⟩ = some (.bool false) ∧ w.cell? ⟨b, o + 2, none⟩ = some (.slice none 0 0) ∧ w.cell? ⟨b, o + 3, none⟩ = some (.int .i64 0) ∧ w.cell? ⟨b, o + 4, none⟩ = some (.int .i64 0) ∧
  w.cell? ⟨b, o + 5, none⟩ = some (.string { data := #[] }) ∧ w.cell? ⟨b, o + 6, none⟩ = some (.slice none 0 0) ∧ w.cell? ⟨b, o + 7, none⟩ = some (.slice none 0 0) ∧ w.cell? ⟨b, o + 8, none⟩ = some (.slice qa qn qc) ∧ w.cell? ⟨b, o + 9, none⟩ = some (.slice none 0 0)
theorem PrAt.below {w w' : World} {b o : Nat} {qa : Option Addr} {qn qc : Nat} (h : PrAt w b o qa qn qc) (hb : Below w.heap.size w w') : PrAt w' b o qa qn qc := by
  obtain ⟨h0, h1, h2, h3, h4, h5, h6, h7, h8, h9⟩ := h
  exact ⟨cell_below hb (Nat.le_refl _) h0, cell_below hb (Nat.le_refl _) h1, cell_below hb (Nat.le_refl _) h2, cell_below hb (Nat.le_refl _) h3, cell_below hb (Nat.le_refl _) h4, cell_below hb (Nat.le_refl _) h5, cell_below hb (Nat.le_refl _) h6, cell_below hb (Nat.le_refl _) h7, cell_below hb (Nat.le_refl _) h8, cell_below hb (Nat.le_refl _) h9⟩
def PrsAt (w : World) (pa : Option Addr) (np : Nat) (qa : Option Addr) (qn qc : Nat) : Prop := 0 < np → ∃ b o, pa = some ⟨b, o, none⟩ ∧ ∀ j, j < np → PrAt w b (o + j * 10) qa qn qc
theorem PrsAt.below {w w' : World} {pa qa : Option Addr} {np qn qc : Nat} (h : PrsAt w pa np qa qn qc) (hb : Below w.heap.size w w') : PrsAt w' pa np qa qn qc := fun h0 => by
  obtain ⟨b, o, e, hc⟩ := h h0
  exact ⟨b, o, e, fun j hj => (hc j hj).below hb⟩
theorem runSts_ok {σ : Type} {ok : σ → Prop} {ue : Ex → σ → σ} {us : St → σ → σ} (hu : ∀ e s, ok (ue e s) → ok s) (hs : ∀ e s, ok (us e s) → ok s) (n : Nat) (f : Nat → St) (s : σ) (h : ok (runSts ue us n f s)) : ok s :=
  iter_ok (j := 0) (fun i _ s => runSt_ok hu hs (f i) s) (by omega) h
/-- All statements of a module: those of the procedures, those of the body. -/
def runMo {σ : Type} (ue : Ex → σ → σ) (us : St → σ → σ) (np qn : Nat) (qf : Nat → St) (nb : Nat) (f : Nat → St) (s : σ) : σ := runSts ue us nb f (iter (fun _ => runSts ue us qn qf) np s)
set_option maxHeartbeats 12800000 in
theorem walkModule_prog {σ : Type} (w0 : World) (B1 : Nat) (Iv : σ → World → Prop) (ok : σ → Prop) (fs : Nat) (cs : Array Value) (us : St → σ → σ) (fe : Nat) (ce : Array Value) (ue : Ex → σ → σ) (hIv : ∀ s W W', Iv s W → Below W.heap.size W W' → Iv s W') (hue : ∀ e s, ok (ue e s) → ok s) (hus : ∀ e s, ok (us e s) → ok s) (hce : ExCb w0 B1 Iv ok fe ce ue) (hcs : StCb w0 B1 Iv ok fs cs us)
    (ege : ∀ args w, (callFunc fe args).run Try.prog w = .ok (.enter fe args) w) (egs : ∀ args w, (callFunc fs args).run Try.prog w = .ok (.enter fs args) w) (W : World) (nm : ByteArray) (va : Option Addr) (nv vc : Nat) (pa : Option Addr) (np pc : Nat) (ba : Option Addr) (nb bc : Nat) (qa : Option Addr) (qn qc : Nat) (qf : Nat → St) (f : Nat → St) (s : σ)
    (h1 : np ≤ pc ∧ pc ≤ 9223372036854775807 ∧ np ≤ 1000) (h2 : nb ≤ bc ∧ bc ≤ 9223372036854775807) (h3 : qn ≤ qc ∧ qc ≤ 9223372036854775807) (hp : PrsAt w0 pa np qa qn qc) (hq : StsAt w0 qa qn qf) (hx : StsAt w0 ba nb f) (hb : Below w0.heap.size w0 W) (hB : B1 ≤ W.heap.size) (hs : Iv s W) (hk : ok (runMo ue us np qn qf nb f s)) :
    Calls Try.prog 20 #[(Mo.mk nm va nv vc pa np pc ba nb bc).val, .func (.func fs) #[] cs, .func (.func fe) #[] ce] W fun en W' => en = unitE ∧ Fr (FF w0.heap.size B1) W W' ∧ Iv (runMo ue us np qn qf nb f s) W' := by
  have HQ := Lib.hid (fun W s hb hB hs hk => walk_prog w0 B1 Iv ok fs cs us fe ce ue hIv hue hus hce hcs ege egs (nestS qn qf + 1) qn qf (by omega) W qa qc s h3.1 h3.2 hq hb hB hs hk)
  obtain ⟨G, hG⟩ : ∃ G : σ → σ, G = runSts ue us qn qf := ⟨_, rfl⟩
  obtain ⟨sp, hsp⟩ : ∃ sp : Nat → σ, sp = fun j => iter (fun _ => G) j s := ⟨_, rfl⟩
  have hrm : runMo ue us np qn qf nb f s = runSts ue us nb f (sp np) := by rw [hsp, hG]; rfl
  rw [hrm] at hk ⊢
  have HK := Lib.hid (show ∀ j, j ≤ np → ok (sp j) from fun j hj => by
    rw [hsp]; exact iter_ok (fun j _ s h => by rw [hG] at h; exact runSts_ok hue hus qn qf s h) hj (by rw [hsp] at hk; exact runSts_ok hue hus nb f _ hk))
  have HGS := Lib.hid (show ∀ j, sp (j + 1) = G (sp j) from fun j => by rw [hsp]; rfl)
  have HS0 := Lib.hid (show sp 0 = s from by rw [hsp]; rfl)
  rw [← hG] at HQ
  have H := Lib.hid (fun W hb hB hs => walk_prog w0 B1 Iv ok fs cs us fe ce ue hIv hue hus hce hcs ege egs (nestS nb f + 1) nb f (by omega) W ba bc (sp np) h2.1 h2.2 hx hb hB hs hk)
  obtain ⟨s', hs'⟩ : ∃ s', s' = runSts ue us nb f (sp np) := ⟨_, rfl⟩
  rw [← hs'] at H ⊢
  have HIV := Lib.hid hIv
  have HB := Lib.hid hb
  have HS := Lib.hid hs
  have HP := Lib.hid hp
  obtain ⟨p1, p2, p3⟩ := h1
  obtain ⟨q1, q2⟩ := h2
  obtain ⟨r1, r2⟩ := h3
  unfold Mo.val Mo.arr
  have hal : Below W.heap.size W (W.alloc (.cells #[.string nm, .slice none 0 0, .slice none 0 0, .slice none 0 0, .slice none 0 0, .slice va nv vc, .slice pa np pc, .slice ba nb bc] 30)) := (Below.refl _ _).alloc (Nat.le_refl _) _
  have HAL := Lib.hid hal
  clear hk hx hIv hue hus hce hcs hb hs hs' hal ege egs hp hq hG hsp hrm
  go_enter Try.func20, Try.ntmps20
  go_wp2_with fail
  go_loop [15] (fun z => z = .int .i64 0) (fun z => 0)
  case atStart => rfl
  case round =>
  obtain rfl := hrel
  go_wp2_with fail
  obtain ⟨w3, hw3⟩ : ∃ w3 : World, w3 = W.alloc (.cells #[.string nm, .slice none 0 0, .slice none 0 0, .slice none 0 0, .slice none 0 0, .slice va nv vc, .slice pa np pc, .slice ba nb bc] 30) := ⟨_, rfl⟩
  rw [← hw3]
  rw [← hw3] at HAL
  have hz3 : B1 ≤ w3.heap.size := Nat.le_trans hB HAL.out.size
  have HZ := Lib.hid (show ∀ V, Fr (FF w0.heap.size B1) w3 V → V.cell? ⟨W.heap.size, 7, none⟩ = some (.slice ba nb bc) from fun V hv => by
    have e1 : w3.cell? ⟨W.heap.size, 7, none⟩ = some (.slice ba nb bc) := rowC (by rw [hw3]; exact heap_alloc_new W _) 7 _
    have hl := World.block_lt_of_cell? _ _ e1
    exact (hv.cell (p := ⟨W.heap.size, 7, none⟩) hl (fun h => by have := h.2; simp at this; omega)).trans e1)
  have HB3 := Lib.hid (show Below w0.heap.size w0 w3 from HB.out.trans (HAL.out.mono HB.out.size))
  have HF3 := Lib.hid (show Fr (FF w0.heap.size B1) W w3 from Fr.of_new HAL.out)
  have HS3 := Lib.hid (show Iv (sp 0) w3 from by rw [HS0.out]; exact HIV.out _ _ _ HS.out HAL.out)
  clear hw3
  go_loopw [27] (fun y wr => ∃ j : Nat, j ≤ np ∧ y = .int .i64 (j : Int) ∧ Iv (sp j) wr ∧ Fr (FF w0.heap.size B1) w3 wr) (fun y _ => np - (intOf y).toNat)
  case atStart => exact ⟨0, by omega, rfl, HS3.out, Fr.refl _ _⟩
  case round =>
    obtain ⟨j, hj, rfl, hs, hf⟩ := hrel
    obtain ⟨wi, rfl⟩ : ∃ wi : World, wi = wr := ⟨_, rfl⟩
    have hbi := Fr.old HB3.out hf
    have hzi : B1 ≤ wi.heap.size := Nat.le_trans hz3 hf.size
    have f1 := HZ.out wi hf
    by_cases hlt : j < np
    · obtain ⟨b, o, rfl, hc⟩ := HP.out (by omega)
      obtain ⟨d0, d1, d2, d3, d4, d5, d6, d7, d8, d9⟩ := (hc j hlt).below hbi
      have HCJ := Lib.hid (fun W hb hB hs => HQ.out W (sp j) hb hB hs (by rw [← HGS.out j]; exact HK.out (j + 1) (by omega)))
      rw [← HGS.out j] at HCJ
      have HSJ := Lib.hid hs
      have HFJ := Lib.hid hf
      have HBJ := Lib.hid hbi
      clear hc hs hf hbi
      go_wp2_with fail
      obtain ⟨w4, hw4⟩ : ∃ w4 : World, w4 = wi.alloc (.cells #[.string { data := #[] }, .bool false, .slice none 0 0, .int .i64 0, .int .i64 0, .string { data := #[] }, .slice none 0 0, .slice none 0 0, .slice qa qn qc, .slice none 0 0] 50) := ⟨_, rfl⟩
      rw [← hw4]
      have hb4 : Below wi.heap.size wi w4 := by rw [hw4]; exact (Below.refl _ _).alloc (Nat.le_refl _) _
      have hz4 : B1 ≤ w4.heap.size := Nat.le_trans hzi hb4.size
      have HZ4 := Lib.hid (show ∀ V, Fr (FF w0.heap.size B1) w4 V → V.cell? ⟨wi.heap.size, 9, none⟩ = some (.slice none 0 0) from fun V hv => by
        have e1 : w4.cell? ⟨wi.heap.size, 9, none⟩ = some (.slice none 0 0) := rowC (by rw [hw4]; exact heap_alloc_new wi _) 9 _
        have hl := World.block_lt_of_cell? _ _ e1
        exact (hv.cell (p := ⟨wi.heap.size, 9, none⟩) hl (fun h => by have := h.2; simp at this; omega)).trans e1)
      have HB4 := Lib.hid hb4
      clear hw4 hb4
      refine (HCJ.out w4 (HBJ.out.trans (HB4.out.mono HBJ.out.size)) hz4 (HIV.out _ _ _ HSJ.out HB4.out)).mono ?_
      rintro en w5 ⟨rfl, hf5, hs5⟩
      have g1 := HZ4.out w5 hf5
      have HF5 := Lib.hid (show Fr (FF w0.heap.size B1) w3 w5 from (HFJ.out.trans (F' := FF w0.heap.size B1) (Fr.of_new HB4.out) (fun i _ h => h)).trans hf5 (fun i _ h => h))
      have HS5 := Lib.hid hs5
      clear hf5 hs5
      unfold unitE
      go_wp2_with fail
      clear g1
      go_loop [39] (fun z => z = .int .i64 0) (fun z => 0)
      case atStart => rfl
      case round =>
      obtain rfl := hrel
      go_wp2_with fail
      go_roundw
      case rel => exact ⟨j + 1, by omega, by go_num, HS5.out, HF5.out⟩
      case measure => simp [intOf]; omega
    · obtain rfl : j = np := by omega
      have HSJ := Lib.hid hs
      have HFJ := Lib.hid hf
      have HBJ := Lib.hid hbi
      clear hs hf hbi
      go_wp2_with fail
      refine (H.out wi HBJ.out hzi HSJ.out).mono ?_
      rintro en W2 ⟨rfl, hf2, hs2⟩
      have HF := Lib.hid (show Fr (FF w0.heap.size B1) W W2 from (HF3.out.trans HFJ.out (fun i _ h => h)).trans hf2 (fun i _ h => h))
      have HS2 := Lib.hid hs2
      clear hf2 hs2
      unfold unitE
      go_wp2_with fail
      refine bodyPost_end (results_none rfl _ _ _) rfl ?_
      exact ⟨rfl, HF.out, HS2.out⟩
end Go.Proofs.Ytmidkomdmnncoaa
