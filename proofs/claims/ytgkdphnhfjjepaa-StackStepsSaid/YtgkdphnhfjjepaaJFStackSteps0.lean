/- The walks and the plain lemmas of the statement, joined: part 8. No condition. -/
import Derived.Laws.OwnMore
import Derived.Deep.QuietTactic
import Derived.BigQuiet
import Derived.Deep.RegionHeld3
import Derived.WalkSpells
import Derived.Deep.RegionWith
import Derived.Deep.CutBlock
import Derived.Deep.DeepCutAuto
import Derived.Test.YtgkdphnhfjjepaaJStk422
import Derived.Test.YtgkdphnhfjjepaaJStk420
import Derived.Test.YtgkdphnhfjjepaaJStk427

/- Contracts of the seat's Made, of Place. -/
namespace Go.Proofs.Ytgkdphnhfjjepaa
open Go.RowKit Go.Waf
set_option maxRecDepth 100000
set_option linter.unusedVariables false
set_option linter.unusedSimpArgs false

def placeC (x n : Int) : Int := if x.tmod n < 0 then x.tmod n + n else x.tmod n
theorem placeC_in (x n : Int) (hn : 1 ≤ n) : 0 ≤ placeC x n ∧ placeC x n < n := by
  have h1 : -n < x.tmod n := Int.lt_tmod_of_pos x (by omega)
  have h2 : x.tmod n < n := Int.tmod_lt_of_pos x (by omega)
  unfold placeC
  split <;> omega
theorem place_any (x n : Int) (hn0 : 1 ≤ n) (hn1 : n ≤ 1000) (w : World) : Calls Try.prog 38 #[.int .i64 x, .int .i64 n] w fun e w' => e = .returned (.int .i64 (placeC x n)) ∧ w = w' := by
  have hin := placeC_in x n hn0
  have h1 : -n < x.tmod n := Int.lt_tmod_of_pos x (by omega)
  have h2 : x.tmod n < n := Int.tmod_lt_of_pos x (by omega)
  obtain ⟨r, hr⟩ : ∃ r, Int.tmod x n = r := ⟨_, rfl⟩
  have hp : placeC x n = if r < 0 then r + n else r := by rw [← hr]; rfl
  rw [hr] at h1 h2
  have HP := Lib.hid hp
  rw [hp]
  clear hp hin
  by_cases h : r < 0
  · rw [if_pos h]
    go_enter Try.func38, Try.ntmps38
    go_wp2_with fail
    go_ret
    exact ⟨rfl, rfl⟩
  · rw [if_neg h]
    go_enter Try.func38, Try.ntmps38
    go_wp2_with fail
    go_ret
    exact ⟨rfl, rfl⟩

/-! ### Rows of instructions -/
theorem elemC : Elem Try.prog 26 25 2 16 := Elem.mk' (z := .agg #[.int .i64 0, .int .i32 0]) Try.underlying26 (by kernel_rfl) rfl (by decide)
def codes (l : List (Int × Int)) : List Value := l.flatMap fun p => [.int .i64 p.1, .int .i32 p.2]
theorem codes_append (l m : List (Int × Int)) : codes (l ++ m) = codes l ++ codes m := by simp [codes]
theorem codes_length : ∀ l : List (Int × Int), (codes l).length = l.length * 2
  | [] => rfl
  | p :: l => by have := codes_length l; simp only [codes, List.flatMap_cons, List.length_append, List.length_cons, List.length_nil] at this ⊢; omega
theorem codes_one (l : List (Int × Int)) : ∀ u ∈ codes l, u.oneCell' = true := by
  intro u hu
  simp only [codes, List.mem_flatMap] at hu
  obtain ⟨p, _, hp⟩ := hu
  simp at hp
  rcases hp with rfl | rfl <;> rfl
theorem codes_get : ∀ (l : List (Int × Int)) (i : Nat), i < l.length → (codes l)[i * 2]? = some (.int .i64 (l.getD i (0, 0)).1) ∧ (codes l)[i * 2 + 1]? = some (.int .i32 (l.getD i (0, 0)).2)
  | [], i, h => by simp at h
  | p :: l, 0, h => by simp [codes]
  | p :: l, i + 1, h => by
    have ih := codes_get l i (by simpa using h)
    have e : codes (p :: l) = .int .i64 p.1 :: .int .i32 p.2 :: codes l := by simp [codes]
    rw [e, show (i + 1) * 2 = i * 2 + 1 + 1 by omega, show i * 2 + 1 + 1 + 1 = (i * 2 + 1) + 1 + 1 by omega]
    simp only [List.getElem?_cons_succ, List.getD_cons_succ]
    exact ih
def FitP (p : Int × Int) : Prop := (Lit.int .i64 p.1).wf = true ∧ (Lit.int .i32 p.2).wf = true
theorem pairs_of_rd {w : World} {a : Option Addr} {n cap : Nat} {l : List (Int × Int)} (hl : l.length = n) (hr : Rd w 2 (.slice a n cap) n (codes l)) (hf : ∀ p ∈ l, FitP p) :
    PairsAt w .i64 .i32 a n cap (fun i => (l.getD i (0, 0)).1) (fun i => (l.getD i (0, 0)).2) := by
  obtain ⟨_, a', cap', he, h1, h2, h3, h4⟩ := hr
  cases he
  unfold maxLen at h2
  refine ⟨h1, h2, h3, fun hn => ?_, fun i hi => ?_⟩
  · obtain ⟨b, off, rfl, hc⟩ := h4 hn
    refine ⟨b, off, rfl, World.block_lt_of_cell? w ⟨b, off + 0, none⟩ (hc 0 _ ((codes_get l 0 (by omega)).1)), fun i hi => ?_⟩
    obtain ⟨g1, g2⟩ := codes_get l i (by omega)
    exact ⟨hc _ _ g1, by rw [Nat.add_assoc]; exact hc _ _ g2⟩
  · have hm : l.getD i (0, 0) ∈ l := by
      rw [List.getD_eq_getElem?_getD, List.getElem?_eq_getElem (by omega)]
      simp
    exact hf _ hm
def MadeRes (n : Nat) (w : World) (e : Ending) (w' : World) : Prop := ∃ a cap V N, e = .returned (.slice a (n + 1) cap) ∧ PairsAt w' .i64 .i32 a (n + 1) cap V N ∧ Below w.heap.size w w'

set_option maxHeartbeats 6400000 in
theorem made_any (w : World) (a : Option Addr) (n cap : Nat) (V N : Nat → Int) (hn : n ≤ 100) (hp : PairsAt w .i64 .i32 a n cap V N) :
    Calls Try.prog 24 #[.slice a n cap] w (MadeRes n w) := by
  have hle := hp.le
  have hcap := hp.cap63
  have HP := Lib.hid hp
  clear hp
  go_enter Try.func24, Try.ntmps24
  go_wp2_with fail
  go_loopw [3, 4] (fun v i wr => ∃ (k : Nat) (l : List (Int × Int)), k ≤ n ∧ i = .int .i64 (k : Int) ∧ l.length = k ∧ (∀ p ∈ l, FitP p) ∧ wr.ownsRow w.heap.size 25 2 v k (codes l) ∧ Below w.heap.size w wr) (fun _ i _ => n - (intOf i).toNat)
  case atStart => exact ⟨0, [], by omega, rfl, rfl, by simp, World.ownsRow_nil _ _ _ _, Below.refl _ _⟩
  case round =>
    obtain ⟨k, l, hk, rfl, hl, hf, hrow, hb⟩ := hrel
    have HL := Lib.hid hl
    have HF := Lib.hid hf
    have HROW := Lib.hid hrow
    have HB := Lib.hid hb
    have hbs := hb.size
    by_cases hlt : k < n
    · have hpw := HP.out.below hb (Nat.le_refl _)
      obtain ⟨ab, ao, rfl, habl, hcs⟩ := hpw.cells (by omega)
      obtain ⟨kv, kn⟩ := hcs k hlt
      obtain ⟨hn0, hn1⟩ := rng_i32 (hpw.wf k hlt).2
      obtain ⟨v, hv⟩ : ∃ v, v = V k := ⟨_, rfl⟩
      obtain ⟨c, hc⟩ : ∃ c, c = N k := ⟨_, rfl⟩
      rw [← hv] at kv
      rw [← hc] at kn hn0 hn1
      obtain ⟨q, hq⟩ : ∃ q, q = placeC v 34 := ⟨_, rfl⟩
      have hqb := placeC_in v 34 (by omega)
      have hpl := fun W => place_any v 34 (by omega) (by omega) W
      rw [← hq] at hqb hpl
      have HPL := Lib.hid hpl
      obtain ⟨hq0, hq1⟩ := hqb
      clear hpw hcs hv hc hq hpl hl hf hrow hb
      go_upto_region 5 with fail
      go_cut [5] (fun p wx => ∃ g, p = .pointer (some ⟨g, 0, none⟩) ∧ wx.heap[g]? = some (.cells #[.int .i64 q, .int .i32 c] 25 (0, 0)) ∧ wr.heap.size ≤ g ∧ Below wr.heap.size wr wx)
      case first =>
        go_region_with (go_at_call 38; refine (HPL.out _).mono ?_; rintro e w3 ⟨rfl, rfl⟩)
        all_goals
          go_wp2_with fail
          go_meet
          case rel => exact ⟨_, rfl, heap_alloc_new wr _, Nat.le_refl _, ((Below.refl _ _).alloc (Nat.le_refl _) _).drew⟩
      case rest =>
        obtain ⟨g, rfl, hblk, hgs, hb2⟩ := hcut
        have d0 : wc.cell? ⟨g, 0, none⟩ = some (.int .i64 q) := by rw [cell_of_row wc g 0 _ _ _ hblk]; rfl
        have d1 : wc.cell? ⟨g, 1, none⟩ = some (.int .i32 c) := by rw [cell_of_row wc g 1 _ _ _ hblk]; rfl
        have f1 := frozen_of_row wc g 1 _ _ hblk
        obtain ⟨z, hz⟩ : ∃ z, z = hasOp q := ⟨_, rfl⟩
        have hHAS := fun W => rhas_any q W
        rw [← hz] at hHAS
        have HHAS := Lib.hid hHAS
        have HZ := Lib.hid hz
        have HBLK := Lib.hid hblk
        have HB2 := Lib.hid hb2
        clear hHAS hz hblk hb2 kv kn HPL
        go_upto_block 2 with fail
        go_cut [] (fun wx => ∃ kk : Int, -2147483648 ≤ kk ∧ kk ≤ 2147483647 ∧ wx.heap[g]? = some (.cells #[.int .i64 q, .int .i32 kk] 25 (0, 0)) ∧ Below wr.heap.size wr wx)
        case first =>
          have hset : ∀ kk : Int, (wc.setCell ⟨g, 1, none⟩ (.int .i32 kk)).heap[g]? = some (.cells #[.int .i64 q, .int .i32 kk] 25 (0, 0)) := fun kk => by
            rw [heap_setCell_same wc g 1 _ _ _ HBLK.out]; rfl
          have HSET := Lib.hid hset
          clear hset
          have hPC := fun (m : Int) (h1 : 1 ≤ m) (h2 : m ≤ 1000) W => place_any c m h1 h2 W
          have hPB := fun (m : Int) (h1 : 1 ≤ m) => placeC_in c m h1
          have HPC := Lib.hid hPC
          have HPB := Lib.hid hPB
          clear hPC hPB
          cases z with
          | false =>
            go_wp2_with fail
            refine (HHAS.out _).mono ?_; rintro e w3 ⟨rfl, rfl⟩
            go_wp2_with fail
            go_meet
            case rel => exact ⟨0, by omega, by omega, HSET.out 0, HB2.out.setCell hgs _⟩
          | true =>
            have hq : q = 1 ∨ q = 5 ∨ q = 8 ∨ q = 25 ∨ q = 26 ∨ q = 27 ∨ q = 28 ∨ q = 30 := by
              have := HZ.out.symm
              simpa [hasOp, or_assoc] using this
            rcases hq with h | h | h | h | h | h | h | h
            · subst h
              go_wp2_with fail
              refine (HHAS.out _).mono ?_; rintro e w3 ⟨rfl, rfl⟩
              go_wp2_with fail
              go_meet
              case rel => exact ⟨c, hn0, hn1, HBLK.out, HB2.out⟩
            · subst h
              have hb6 := HPB.out 6 (by omega)
              obtain ⟨y, hy⟩ : ∃ y, y = placeC c 6 := ⟨_, rfl⟩
              have hp6 := fun W => HPC.out 6 (by omega) (by omega) W
              rw [← hy] at hb6 hp6
              have HP6 := Lib.hid hp6
              obtain ⟨hb60, hb61⟩ := hb6
              clear hp6 hy
              go_wp2_with fail
              refine (HHAS.out _).mono ?_; rintro e w3 ⟨rfl, rfl⟩
              go_wp2_with fail
              refine (HP6.out _).mono ?_; rintro e w3 ⟨rfl, rfl⟩
              go_wp2_with fail
              go_meet
              case rel => exact ⟨_, by omega, by omega, HSET.out _, HB2.out.setCell hgs _⟩
            · subst h
              have hb6 := HPB.out 6 (by omega)
              obtain ⟨y, hy⟩ : ∃ y, y = placeC c 6 := ⟨_, rfl⟩
              have hp6 := fun W => HPC.out 6 (by omega) (by omega) W
              rw [← hy] at hb6 hp6
              have HP6 := Lib.hid hp6
              obtain ⟨hb60, hb61⟩ := hb6
              clear hp6 hy
              go_wp2_with fail
              refine (HHAS.out _).mono ?_; rintro e w3 ⟨rfl, rfl⟩
              go_wp2_with fail
              refine (HP6.out _).mono ?_; rintro e w3 ⟨rfl, rfl⟩
              go_wp2_with fail
              go_meet
              case rel => exact ⟨_, by omega, by omega, HSET.out _, HB2.out.setCell hgs _⟩
            · subst h
              have hb6 := HPB.out ((n : Int) + 1) (by omega)
              obtain ⟨y, hy⟩ : ∃ y, y = placeC c ((n : Int) + 1) := ⟨_, rfl⟩
              have hp6 := fun W => HPC.out ((n : Int) + 1) (by omega) (by omega) W
              rw [← hy] at hb6 hp6
              have HP6 := Lib.hid hp6
              obtain ⟨hb60, hb61⟩ := hb6
              clear hp6 hy
              go_wp2_with fail
              refine (HHAS.out _).mono ?_; rintro e w3 ⟨rfl, rfl⟩
              go_wp2_with fail
              refine (HP6.out _).mono ?_; rintro e w3 ⟨rfl, rfl⟩
              go_wp2_with fail
              go_meet
              case rel => exact ⟨_, by omega, by omega, HSET.out _, HB2.out.setCell hgs _⟩
            · subst h
              have hb6 := HPB.out ((n : Int) + 1) (by omega)
              obtain ⟨y, hy⟩ : ∃ y, y = placeC c ((n : Int) + 1) := ⟨_, rfl⟩
              have hp6 := fun W => HPC.out ((n : Int) + 1) (by omega) (by omega) W
              rw [← hy] at hb6 hp6
              have HP6 := Lib.hid hp6
              obtain ⟨hb60, hb61⟩ := hb6
              clear hp6 hy
              go_wp2_with fail
              refine (HHAS.out _).mono ?_; rintro e w3 ⟨rfl, rfl⟩
              go_wp2_with fail
              refine (HP6.out _).mono ?_; rintro e w3 ⟨rfl, rfl⟩
              go_wp2_with fail
              go_meet
              case rel => exact ⟨_, by omega, by omega, HSET.out _, HB2.out.setCell hgs _⟩
            · subst h
              have hb6 := HPB.out ((n : Int) + 1) (by omega)
              obtain ⟨y, hy⟩ : ∃ y, y = placeC c ((n : Int) + 1) := ⟨_, rfl⟩
              have hp6 := fun W => HPC.out ((n : Int) + 1) (by omega) (by omega) W
              rw [← hy] at hb6 hp6
              have HP6 := Lib.hid hp6
              obtain ⟨hb60, hb61⟩ := hb6
              clear hp6 hy
              go_wp2_with fail
              refine (HHAS.out _).mono ?_; rintro e w3 ⟨rfl, rfl⟩
              go_wp2_with fail
              refine (HP6.out _).mono ?_; rintro e w3 ⟨rfl, rfl⟩
              go_wp2_with fail
              go_meet
              case rel => exact ⟨_, by omega, by omega, HSET.out _, HB2.out.setCell hgs _⟩
            · subst h
              have hb6 := HPB.out 6 (by omega)
              obtain ⟨y, hy⟩ : ∃ y, y = placeC c 6 := ⟨_, rfl⟩
              have hp6 := fun W => HPC.out 6 (by omega) (by omega) W
              rw [← hy] at hb6 hp6
              have HP6 := Lib.hid hp6
              obtain ⟨hb60, hb61⟩ := hb6
              clear hp6 hy
              go_wp2_with fail
              refine (HHAS.out _).mono ?_; rintro e w3 ⟨rfl, rfl⟩
              go_wp2_with fail
              refine (HP6.out _).mono ?_; rintro e w3 ⟨rfl, rfl⟩
              go_wp2_with fail
              go_meet
              case rel => exact ⟨_, by omega, by omega, HSET.out _, HB2.out.setCell hgs _⟩
            · subst h
              have hb6 := HPB.out 15 (by omega)
              obtain ⟨y, hy⟩ : ∃ y, y = placeC c 15 := ⟨_, rfl⟩
              have hp6 := fun W => HPC.out 15 (by omega) (by omega) W
              rw [← hy] at hb6 hp6
              have HP6 := Lib.hid hp6
              obtain ⟨hb60, hb61⟩ := hb6
              clear hp6 hy
              go_wp2_with fail
              refine (HHAS.out _).mono ?_; rintro e w3 ⟨rfl, rfl⟩
              go_wp2_with fail
              refine (HP6.out _).mono ?_; rintro e w3 ⟨rfl, rfl⟩
              go_wp2_with fail
              go_meet
              case rel => exact ⟨_, by omega, by omega, HSET.out _, HB2.out.setCell hgs _⟩
        case rest =>
          obtain ⟨kk, hk0, hk1, hblk, hb3⟩ := hcut
          have e0 : wc.cell? ⟨g, 0, none⟩ = some (.int .i64 q) := by rw [cell_of_row wc g 0 _ _ _ hblk]; rfl
          have e1 : wc.cell? ⟨g, 1, none⟩ = some (.int .i32 kk) := by rw [cell_of_row wc g 1 _ _ _ hblk]; rfl
          have hg3 : wr.grownBy wc none := ⟨hb3.os, hb3.tape, hb3.output, hb3.size, fun j hj _ => hb3.block j hj⟩
          have HR3 := Lib.hid (HROW.out.kept hg3 (Classical.em _))
          have HB3 := Lib.hid (HB.out.trans (hb3.mono HB.out.size))
          have hsz3 := HB3.out.size
          have HFP := Lib.hid (show FitP (q, kk) from ⟨WalkArith.wf_i64 (by omega), WalkArith.wf_i32 (by omega)⟩)
          clear hg3 hblk hb3 d0 d1 f1
          go_wp2_with (at_builtin; refine app_own _ elemC rfl _ _ rfl w.heap.size _ k (codes l) rfl (HR3.out.alloc _) _ 1 (codes [(q, kk)]) rfl (rd_new _ _ _ _ _ (by simp) (by simp [maxLen])) (codes_one _) (by simp only [maxLen]; omega) (by omega) (by simp; omega) ?_; intro v3 w3 ho3 hg3)
          go_roundw
          case rel =>
            refine ⟨k + 1, l ++ [(q, kk)], by omega, by go_num, by rw [List.length_append, HL.out]; rfl, ?_, by rw [codes_append]; exact ho3, below_of_grown (HB3.out.alloc hsz3 _) (by simp; omega) (HR3.out.alloc _) (Nat.le_refl _) rfl hg3⟩
            intro p hp
            rcases List.mem_append.1 hp with h | h
            · exact HF.out p h
            · simp at h; rw [h]; exact HFP.out
          case measure => simp [intOf]; omega
    · obtain rfl : k = n := by omega
      clear hl hf hrow hb
      go_wp2_with (at_builtin; refine app_own _ elemC rfl _ _ rfl w.heap.size _ k (codes l) rfl (HROW.out.alloc _) _ 1 (codes [(0, 0)]) rfl (rd_new _ _ _ _ _ (by simp) (by simp [maxLen])) (codes_one _) (by simp only [maxLen]; omega) (by omega) (by simp; omega) ?_; intro v3 w3 ho3 hg3)
      have hb3 := below_of_grown (HB.out.alloc hbs (.cells (codes [(0, 0)]).toArray 25)) (by simp; omega) (HROW.out.alloc _) (Nat.le_refl _) rfl hg3
      have hrd := rd_of_owns ho3
      rw [← codes_append] at hrd
      obtain ⟨va, vc, rfl, _, _, _⟩ := rd_shape hrd
      have hres : MadeRes k w (.returned (.slice va (k + 1) vc)) w3 := ⟨va, vc, _, _, rfl, pairs_of_rd (by rw [List.length_append, HL.out]; rfl) hrd (fun p hp => by
        rcases List.mem_append.1 hp with h | h
        · exact HF.out p h
        · simp at h; rw [h]; exact ⟨by decide, by decide⟩), hb3⟩
      have HRES := Lib.hid hres
      clear hrd hb3 hres
      go_wp2_with fail
      go_ret
      exact HRES.out
end Go.Proofs.Ytgkdphnhfjjepaa

/- The contract of StackSteps. -/
namespace Go.Proofs.Ytgkdphnhfjjepaa
open Go.RowKit Go.Waf
set_option maxRecDepth 100000
set_option linter.unusedVariables false
set_option linter.unusedSimpArgs false

set_option maxHeartbeats 6400000 in
theorem stackSteps_any (a0 : Option Addr) (len0 cap0 : Nat) (V0 N0 : Nat → Int) (n base : Int) (a3 : Option Addr) (len3 cap3 : Nat) (z3 : List Int) (fuel : Int) (w : World) (w0 : PairsAt w .i64 .i32 a0 len0 cap0 V0 N0) (w1 : (Lit.int .u8 n).wf = true) (w2 : (Lit.int .u8 base).wf = true) (w3 : RowOf .u8 w a3 len3 cap3 z3) (w4 : (Lit.int .u8 fuel).wf = true) :
    Calls Try.prog 7 #[.slice a0 len0 cap0, .int .u8 n, .int .u8 base, .slice a3 len3 cap3, .int .u8 fuel] w fun e w' => e = .returned (.bool true) ∧ Below w.heap.size w w' := by
  obtain ⟨n0, n1⟩ := rng_u8 w1
  obtain ⟨m0, m1⟩ := rng_u8 w2
  obtain ⟨f0, f1⟩ := rng_u8 w4
  have l0 := w0.le
  have l1 := w0.cap63
  obtain ⟨l2, l3⟩ := w3.bounds
  have KN := Lib.hid (fun W => known_any W)
  by_cases hbig : 40 < len0 ∨ 20 < len3
  · have hsplit : 40 < len0 ∨ (len0 ≤ 40 ∧ 20 < len3) := by omega
    clear w0 w1 w2 w3 w4 hbig
    rcases hsplit with h | ⟨h, h'⟩
    all_goals
      go_enter Try.func7, Try.ntmps7
      go_wp2_with (go_at_call 11; refine (KN.out _).mono ?_; rintro e w1 ⟨rfl, hb1⟩)
      go_ret
      exact ⟨rfl, hb1⟩
  · have hl0 : len0 ≤ 40 := by omega
    have hl3 : len3 ≤ 20 := by omega
    have W0 := Lib.hid w0
    have ri := w3.rd
    have hi := byt_of_row w3
    have hil := w3.len
    obtain ⟨inp, hinp⟩ : ∃ c, c = z3.take len3 := ⟨_, rfl⟩
    rw [← hinp] at ri hi hil
    have ri' : Rd w 1 (.slice a3 len3 cap3) inp.length (byt inp) := by rw [hil]; exact ri
    have RI := Lib.hid ri'
    have HI := Lib.hid hi
    have hil' : inp.length ≤ 20 := by omega
    have IB := Lib.hid (fun k (hk : (Value.slice a3 len3 cap3).ownBlock = some k) (hn : 0 < inp.length) => rd_block RI.out (by decide) hn hk)
    obtain ⟨N, hN⟩ := Int.eq_ofNat_of_zero_le (show 0 ≤ n % 60 by omega)
    have hNl : N < 60 := by omega
    have eT : n.tmod 60 = N := by rw [Int.tmod_eq_emod_of_nonneg n0]; exact hN
    obtain ⟨Bs, hBs⟩ := Int.eq_ofNat_of_zero_le (show 0 ≤ base % 60 by omega)
    have eB : base.tmod 60 = Bs := by rw [Int.tmod_eq_emod_of_nonneg m0]; exact hBs
    have hBl : Bs < 60 := by omega
    obtain ⟨FU, rfl⟩ := Int.eq_ofNat_of_zero_le f0
    have HNW := Lib.hid (show N = words0 (N : Int) from by unfold words0; omega)
    clear w0 w1 w2 w3 w4 hbig ri hi hinp ri' hil hN hBs
    go_enter Try.func7, Try.ntmps7
    go_wp2_with (go_at_call 11; refine (KN.out _).mono ?_; rintro e wc ⟨rfl, hbc⟩)
    have HBC := Lib.hid hbc
    clear hbc
    refine (made_any _ a0 len0 cap0 V0 N0 (by omega) (W0.out.below HBC.out (Nat.le_refl _))).mono ?_
    rintro e wr ⟨am, cm, V, NV, rfl, hPm, hbm⟩
    have hb : Below w.heap.size w wr := HBC.out.trans (hbm.mono HBC.out.size)
    have HB := Lib.hid hb
    have hrc := rd_of_pairs hPm
    have hk := code_ok_of hPm
    have hcl := codeOf_length V NV (len0 + 1)
    obtain ⟨ys, hys⟩ : ∃ c, c = codeOf V NV (len0 + 1) := ⟨_, rfl⟩
    rw [← hys] at hrc hk hcl
    have hyl : ys.length ≤ 41 := by omega
    have hcb : ∀ kk, (Value.slice am (len0 + 1) cm).ownBlock = some kk → 0 < ys.length → kk < wr.heap.size := fun kk h hn => rd_block hrc (by decide) hn h
    have HK := Lib.hid hk
    have HRC := Lib.hid hrc
    have HCB := Lib.hid hcb
    clear hPm hbm hb hrc hk hcl hys hcb
    go_wp2_with fail
    refine (pnew_any _ _ _ N (N : Int) (Bs : Int) (.inl rfl) ys inp HK.out (by omega) HI.out (by omega) (by omega) HRC.out (RI.out.below HB.out (Nat.le_refl _))).mono ?_
    intro ea wa hA
    have HA := Lib.hid hA
    obtain ⟨q1, F1, cv1, mv1, iv1, rfl, _, _, _, hba⟩ := hA
    have HBA := Lib.hid (HB.out.trans (hba.mono HB.out.size))
    have HBA1 := Lib.hid hba
    clear hba
    go_wp2_with fail
    refine (rnew_any _ _ _ (N : Int) (Bs : Int) N ys inp HK.out (by omega) HI.out (by omega) HNW.out (HRC.out.below HBA1.out (Nat.le_refl _)) (RI.out.below HBA.out (Nat.le_refl _))).mono ?_
    intro eb wb hB
    obtain ⟨q1', q2, cv1, mv1, cv2, mv2, he1, rfl, hD, hbb⟩ := duo_new (base := w.heap.size) HB.out.size HA.out hB (fun kk h hn => .inl (HCB.out kk h hn)) (fun kk h hn => .inl (Nat.lt_of_lt_of_le (IB.out kk h hn) HB.out.size)) (fun k hk => hk) (fun k hk => hk)
    obtain rfl : q1 = q1' := by injection he1 with h; injection h with h; injection h with h; injection h
    have HD := Lib.hid hD
    have HBW := Lib.hid (HB.out.trans (hbb.mono HB.out.size))
    obtain ⟨s0, hs0⟩ : ∃ s0, s0 = SSt.new ys N (baseOf (Bs : Int) N) inp := ⟨_, rfl⟩
    have hso0 : s0.out.length = 0 := by rw [hs0]; rfl
    have HKN := Lib.hid (show ∀ j, KeepsN j s0 (s0.stepN j) from fun j => by rw [hs0]; exact new_keepsN _ _ _ _ j)
    have HD0 := Lib.hid (hs0 ▸ HD.out)
    clear hB hD hbb he1 hs0 HD
    go_wp2_with fail
    go_loopw [14] (fun i wx => ∃ j : Nat, j ≤ FU ∧ i = .int .i64 j ∧ Duo true false wx w.heap.size q1 q2 (fun _ => False) cv1 mv1 cv2 mv2 (s0.stepN j) (s0.stepN j) ∧ Below w.heap.size w wx) (fun i _ => FU - (intOf i).toNat)
    case atStart => exact ⟨0, by omega, rfl, HD0.out, HBW.out⟩
    case round =>
      obtain ⟨j, hj, rfl, hD, hb⟩ := hrel
      have hso := (HKN.out j).2.2.2
      have hso1 := (HKN.out (j + 1)).2.2.2
      rw [hso0] at hso hso1
      have HDJ := Lib.hid hD
      have HBJ := Lib.hid hb
      clear hD hb
      obtain ⟨sj, hsj⟩ : ∃ sj, sj = s0.stepN j := ⟨_, rfl⟩
      have hsj1 : s0.stepN (j + 1) = sj.step := by rw [SSt.stepN_succ, hsj]
      rw [← hsj] at hso
      rw [hsj1] at hso1
      have HDK := Lib.hid (hsj ▸ HDJ.out)
      have HSJ1 := Lib.hid hsj1
      have HSJ := Lib.hid hsj
      obtain ⟨bb, hbb⟩ : ∃ bb, bb = decide (sj.fin = 0) := ⟨_, rfl⟩
      have hP := duo_step_p HDK.out (by omega)
      rw [← hbb] at hP
      have HP := Lib.hid hP
      have HBB := Lib.hid hbb
      clear hsj hsj1 hbb hP
      by_cases hlt : j < FU
      · go_wp2_with fail
        refine HP.out.mono ?_; rintro e w5 ⟨rfl, hD5, hb5⟩
        have hR := duo_step_r hD5.swap (by omega)
        rw [← HBB.out] at hR
        have HR := Lib.hid hR
        have HB5 := Lib.hid (HBJ.out.trans hb5)
        clear hD5 hb5 hR
        go_wp2_with fail
        refine HR.out.mono ?_; rintro e w6 ⟨rfl, hD6, hb6⟩
        obtain ⟨B1, B2, G1, G2, jv1, sv1, kv1, ov1, jv2, sv2, kv2, ov2, hD7⟩ := hD6.swap
        have HD7 := Lib.hid hD7
        have HB6 := Lib.hid (HB5.out.trans hb6)
        clear hD6 hb6 hD7
        go_wp2_with fail
        refine (same_any HD7.out.m1 HD7.out.m2 (by omega)).mono ?_
        rintro e w8 ⟨rfl, hb8⟩
        have HB8 := Lib.hid hb8
        clear hb8
        go_wp2_with fail
        go_roundw
        case rel => exact ⟨j + 1, by omega, by go_num, by rw [HSJ1.out]; exact Duo.below ⟨_, _, _, _, _, _, _, _, _, _, _, _, HD7.out⟩ HB8.out, HB6.out.trans (HB8.out.mono HB6.out.size)⟩
        case measure => simp [intOf]; omega
      · obtain ⟨B1, B2, G1, G2, jv1, sv1, kv1, ov1, jv2, sv2, kv2, ov2, hD7⟩ := HDK.out
        have HD7 := Lib.hid hD7
        clear hD7 HP
        go_wp2_with fail
        refine (words_any HD7.out.m1 HD7.out.m2).mono ?_
        rintro e w9 ⟨rfl, rfl⟩
        go_wp2_with fail
        go_ret
        exact ⟨rfl, HBJ.out⟩
end Go.Proofs.Ytgkdphnhfjjepaa
