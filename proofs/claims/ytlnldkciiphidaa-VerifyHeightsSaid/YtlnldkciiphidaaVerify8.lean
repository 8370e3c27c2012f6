/- Contracts of Ints, Place, Made. -/
import Derived.Test.YtlnldkciiphidaaVerify7
import Derived.Deep.RegionWith
import Derived.Deep.RegionHeld3
namespace Go.Proofs.Ytlnldkciiphidaa
open Go.RowKit Go.Waf
set_option maxRecDepth 100000
set_option linter.unusedVariables false

theorem ints_same (w : World) (v v' : Value) (n : Nat) (L : List Int) (hr : Rd w 1 v n (ints L)) (hr' : Rd w 1 v' n (ints L)) :
    Calls Try.prog 11 #[v, v'] w fun e w' => e = .returned (.bool true) ∧ ∃ m, w' = w.drewN m := by
  have hlen : L.length = n := by have := hr.1; simpa [ints] using this
  obtain ⟨a, cap, rfl, c1, c2, c3⟩ := rd_shape hr
  obtain ⟨b, bcap, rfl, d1, d2, d3⟩ := rd_shape hr'
  have R := Lib.hid hr
  have R' := Lib.hid hr'
  have HL := Lib.hid hlen
  clear hr hr' hlen
  unfold maxLen at c2 d2
  go_enter Try.func11, Try.ntmps11
  go_wp2_with fail
  go_loopw [5] (fun i wr => ∃ k m : Nat, k ≤ n ∧ i = .int .i64 (k : Int) ∧ wr = w.drewN m) (fun i _ => n - (intOf i).toNat)
  case atStart => exact ⟨0, 0, by omega, rfl, rfl⟩
  case round =>
    obtain ⟨k, m, hk, rfl, rfl⟩ := hrel
    by_cases hlt : k < n
    · obtain ⟨ab, ao, rfl, hc⟩ := Rd_at R.out (by omega)
      obtain ⟨bb, bo, rfl, hd⟩ := Rd_at R'.out (by omega)
      have cin : w.cell? ⟨ab, ao + k, none⟩ = some (.int .i64 (L.getD k 0)) := hc k _ (ints_get L k (by rw [HL.out]; exact hlt))
      have din : w.cell? ⟨bb, bo + k, none⟩ = some (.int .i64 (L.getD k 0)) := hd k _ (ints_get L k (by rw [HL.out]; exact hlt))
      obtain ⟨c, hcd⟩ : ∃ c, c = L.getD k 0 := ⟨_, rfl⟩
      rw [← hcd] at cin din
      clear hc hd hcd
      go_wp2_with fail
      go_quiet (fail)
      go_wp2_with fail
      go_roundw
      case rel => exact ⟨k + 1, _, by omega, by go_num, rfl⟩
      case measure => simp [intOf]; omega
    · obtain rfl : k = n := by omega
      go_wp2_with fail
      go_ret
      exact ⟨rfl, m, rfl⟩

def placeC (x n : Int) : Int := if x.tmod n < 0 then x.tmod n + n else x.tmod n
theorem placeC_in (x n : Int) (hn : 1 ≤ n) : 0 ≤ placeC x n ∧ placeC x n < n := by
  have h1 : -n < x.tmod n := Int.lt_tmod_of_pos x (by omega)
  have h2 : x.tmod n < n := Int.tmod_lt_of_pos x (by omega)
  unfold placeC
  split <;> omega
theorem place_any (x n : Int) (hn0 : 1 ≤ n) (hn1 : n ≤ 1000) (w : World) : Calls Try.prog 12 #[.int .i64 x, .int .i64 n] w fun e w' => e = .returned (.int .i64 (placeC x n)) ∧ w = w' := by
  have hin := placeC_in x n hn0
  have h1 : -n < x.tmod n := Int.lt_tmod_of_pos x (by omega)
  have h2 : x.tmod n < n := Int.tmod_lt_of_pos x (by omega)
  obtain ⟨r, hr⟩ : ∃ r, Int.tmod x n = r := ⟨_, rfl⟩
  have hp : placeC x n = if r < 0 then r + n else r := by rw [← hr]; rfl
  rw [hr] at h1 h2
  have HP := Lib.hid hp
  rw [hp]
  clear hp hin
  by_cases h : r < 0
  · rw [if_pos h]
    go_enter Try.func12, Try.ntmps12
    go_wp2_with fail
    go_ret
    exact ⟨rfl, rfl⟩
  · rw [if_neg h]
    go_enter Try.func12, Try.ntmps12
    go_wp2_with fail
    go_ret
    exact ⟨rfl, rfl⟩

/-! ### Rows of instructions -/
theorem elemC : Elem Try.prog 22 36 2 16 := Elem.mk' (z := .agg #[.int .i64 0, .int .i32 0]) Try.underlying22 (by kernel_rfl) rfl (by decide)
def codes (l : List (Int × Int)) : List Value := l.flatMap fun p => [.int .i64 p.1, .int .i32 p.2]
theorem codes_append (l m : List (Int × Int)) : codes (l ++ m) = codes l ++ codes m := by simp [codes]
theorem codes_length : ∀ l : List (Int × Int), (codes l).length = l.length * 2
  | [] => rfl
  | p :: l => by have := codes_length l; simp only [codes, List.flatMap_cons, List.length_append, List.length_cons, List.length_nil] at this ⊢; omega
theorem codes_one (l : List (Int × Int)) : ∀ u ∈ codes l, u.oneCell' = true := by
  intro u hu
  simp only [codes, List.mem_flatMap] at hu
  obtain ⟨p, _, hp⟩ := hu
  simp at hp
  rcases hp with rfl | rfl <;> rfl
theorem codes_get : ∀ (l : List (Int × Int)) (i : Nat), i < l.length → (codes l)[i * 2]? = some (.int .i64 (l.getD i (0, 0)).1) ∧ (codes l)[i * 2 + 1]? = some (.int .i32 (l.getD i (0, 0)).2)
  | [], i, h => by simp at h
  | p :: l, 0, h => by simp [codes]
  | p :: l, i + 1, h => by
    have ih := codes_get l i (by simpa using h)
    have e : codes (p :: l) = .int .i64 p.1 :: .int .i32 p.2 :: codes l := by simp [codes]
    rw [e, show (i + 1) * 2 = i * 2 + 1 + 1 by omega, show i * 2 + 1 + 1 + 1 = (i * 2 + 1) + 1 + 1 by omega]
    simp only [List.getElem?_cons_succ, List.getD_cons_succ]
    exact ih
def FitP (p : Int × Int) : Prop := (Lit.int .i64 p.1).wf = true ∧ (Lit.int .i32 p.2).wf = true
theorem pairs_of_rd {w : World} {a : Option Addr} {n cap : Nat} {l : List (Int × Int)} (hl : l.length = n) (hr : Rd w 2 (.slice a n cap) n (codes l)) (hf : ∀ p ∈ l, FitP p) :
    PairsAt w .i64 .i32 a n cap (fun i => (l.getD i (0, 0)).1) (fun i => (l.getD i (0, 0)).2) := by
  obtain ⟨_, a', cap', he, h1, h2, h3, h4⟩ := hr
  cases he
  unfold maxLen at h2
  refine ⟨h1, h2, h3, fun hn => ?_, fun i hi => ?_⟩
  · obtain ⟨b, off, rfl, hc⟩ := h4 hn
    refine ⟨b, off, rfl, World.block_lt_of_cell? w ⟨b, off + 0, none⟩ (hc 0 _ ((codes_get l 0 (by omega)).1)), fun i hi => ?_⟩
    obtain ⟨g1, g2⟩ := codes_get l i (by omega)
    exact ⟨hc _ _ g1, by rw [Nat.add_assoc]; exact hc _ _ g2⟩
  · have hm : l.getD i (0, 0) ∈ l := by
      rw [List.getD_eq_getElem?_getD, List.getElem?_eq_getElem (by omega)]
      simp
    exact hf _ hm
def MadeRes (n : Nat) (w : World) (e : Ending) (w' : World) : Prop := ∃ a cap V N, e = .returned (.slice a (n + 1) cap) ∧ PairsAt w' .i64 .i32 a (n + 1) cap V N ∧ Below w.heap.size w w'

set_option maxHeartbeats 6400000 in
theorem made_any (w : World) (a : Option Addr) (n cap : Nat) (V N : Nat → Int) (hn : n ≤ 100) (hp : PairsAt w .i64 .i32 a n cap V N) :
    Calls Try.prog 6 #[.slice a n cap] w (MadeRes n w) := by
  have hle := hp.le
  have hcap := hp.cap63
  have HP := Lib.hid hp
  clear hp
  go_enter Try.func6, Try.ntmps6
  go_wp2_with fail
  go_loopw [3, 4] (fun v i wr => ∃ (k : Nat) (l : List (Int × Int)), k ≤ n ∧ i = .int .i64 (k : Int) ∧ l.length = k ∧ (∀ p ∈ l, FitP p) ∧ wr.ownsRow w.heap.size 36 2 v k (codes l) ∧ Below w.heap.size w wr) (fun _ i _ => n - (intOf i).toNat)
  case atStart => exact ⟨0, [], by omega, rfl, rfl, by simp, World.ownsRow_nil _ _ _ _, Below.refl _ _⟩
  case round =>
    obtain ⟨k, l, hk, rfl, hl, hf, hrow, hb⟩ := hrel
    have HL := Lib.hid hl
    have HF := Lib.hid hf
    have HROW := Lib.hid hrow
    have HB := Lib.hid hb
    have hbs := hb.size
    by_cases hlt : k < n
    · have hpw := HP.out.below hb (Nat.le_refl _)
      obtain ⟨ab, ao, rfl, habl, hcs⟩ := hpw.cells (by omega)
      obtain ⟨kv, kn⟩ := hcs k hlt
      obtain ⟨hn0, hn1⟩ := rng_i32 (hpw.wf k hlt).2
      obtain ⟨v, hv⟩ : ∃ v, v = V k := ⟨_, rfl⟩
      obtain ⟨c, hc⟩ : ∃ c, c = N k := ⟨_, rfl⟩
      rw [← hv] at kv
      rw [← hc] at kn hn0 hn1
      obtain ⟨q, hq⟩ : ∃ q, q = placeC v 34 := ⟨_, rfl⟩
      have hqb := placeC_in v 34 (by omega)
      have hpl := fun W => place_any v 34 (by omega) (by omega) W
      rw [← hq] at hqb hpl
      have HPL := Lib.hid hpl
      obtain ⟨hq0, hq1⟩ := hqb
      clear hpw hcs hv hc hq hpl hl hf hrow hb
      go_upto_region 5 with fail
      go_cut [5] (fun p wx => ∃ g, p = .pointer (some ⟨g, 0, none⟩) ∧ wx.heap[g]? = some (.cells #[.int .i64 q, .int .i32 c] 36 (0, 0)) ∧ wr.heap.size ≤ g ∧ Below wr.heap.size wr wx)
      case first =>
        go_region_with (go_at_call 12; refine (HPL.out _).mono ?_; rintro e w3 ⟨rfl, rfl⟩)
        all_goals
          go_wp2_with fail
          go_meet
          case rel => exact ⟨_, rfl, heap_alloc_new wr _, Nat.le_refl _, ((Below.refl _ _).alloc (Nat.le_refl _) _).drew⟩
      case rest =>
        obtain ⟨g, rfl, hblk, hgs, hb2⟩ := hcut
        have d0 : wc.cell? ⟨g, 0, none⟩ = some (.int .i64 q) := by rw [cell_of_row wc g 0 _ _ _ hblk]; rfl
        have d1 : wc.cell? ⟨g, 1, none⟩ = some (.int .i32 c) := by rw [cell_of_row wc g 1 _ _ _ hblk]; rfl
        have f1 := frozen_of_row wc g 1 _ _ hblk
        obtain ⟨z, hz⟩ : ∃ z, z = hasOp q := ⟨_, rfl⟩
        have hHAS := fun W => rhas_any q W
        rw [← hz] at hHAS
        have HHAS := Lib.hid hHAS
        have HZ := Lib.hid hz
        have HBLK := Lib.hid hblk
        have HB2 := Lib.hid hb2
        clear hHAS hz hblk hb2 kv kn HPL
        go_upto_block 2 with fail
        go_cut [] (fun wx => ∃ kk : Int, -2147483648 ≤ kk ∧ kk ≤ 2147483647 ∧ wx.heap[g]? = some (.cells #[.int .i64 q, .int .i32 kk] 36 (0, 0)) ∧ Below wr.heap.size wr wx)
        case first =>
          have hset : ∀ kk : Int, (wc.setCell ⟨g, 1, none⟩ (.int .i32 kk)).heap[g]? = some (.cells #[.int .i64 q, .int .i32 kk] 36 (0, 0)) := fun kk => by
            rw [heap_setCell_same wc g 1 _ _ _ HBLK.out]; rfl
          have HSET := Lib.hid hset
          clear hset
          have hPC := fun (m : Int) (h1 : 1 ≤ m) (h2 : m ≤ 1000) W => place_any c m h1 h2 W
          have hPB := fun (m : Int) (h1 : 1 ≤ m) => placeC_in c m h1
          have HPC := Lib.hid hPC
          have HPB := Lib.hid hPB
          clear hPC hPB
          cases z with
          | false =>
            go_wp2_with fail
            refine (HHAS.out _).mono ?_; rintro e w3 ⟨rfl, rfl⟩
            go_wp2_with fail
            go_meet
            case rel => exact ⟨0, by omega, by omega, HSET.out 0, HB2.out.setCell hgs _⟩
          | true =>
            have hq : q = 1 ∨ q = 5 ∨ q = 8 ∨ q = 25 ∨ q = 26 ∨ q = 27 ∨ q = 28 ∨ q = 30 := by
              have := HZ.out.symm
              simpa [hasOp, or_assoc] using this
            rcases hq with h | h | h | h | h | h | h | h
            · subst h
              go_wp2_with fail
              refine (HHAS.out _).mono ?_; rintro e w3 ⟨rfl, rfl⟩
              go_wp2_with fail
              go_meet
              case rel => exact ⟨c, hn0, hn1, HBLK.out, HB2.out⟩
            · subst h
              have hb6 := HPB.out 6 (by omega)
              obtain ⟨y, hy⟩ : ∃ y, y = placeC c 6 := ⟨_, rfl⟩
              have hp6 := fun W => HPC.out 6 (by omega) (by omega) W
              rw [← hy] at hb6 hp6
              have HP6 := Lib.hid hp6
              obtain ⟨hb60, hb61⟩ := hb6
              clear hp6 hy
              go_wp2_with fail
              refine (HHAS.out _).mono ?_; rintro e w3 ⟨rfl, rfl⟩
              go_wp2_with fail
              refine (HP6.out _).mono ?_; rintro e w3 ⟨rfl, rfl⟩
              go_wp2_with fail
              go_meet
              case rel => exact ⟨_, by omega, by omega, HSET.out _, HB2.out.setCell hgs _⟩
            · subst h
              have hb6 := HPB.out 6 (by omega)
              obtain ⟨y, hy⟩ : ∃ y, y = placeC c 6 := ⟨_, rfl⟩
              have hp6 := fun W => HPC.out 6 (by omega) (by omega) W
              rw [← hy] at hb6 hp6
              have HP6 := Lib.hid hp6
              obtain ⟨hb60, hb61⟩ := hb6
              clear hp6 hy
              go_wp2_with fail
              refine (HHAS.out _).mono ?_; rintro e w3 ⟨rfl, rfl⟩
              go_wp2_with fail
              refine (HP6.out _).mono ?_; rintro e w3 ⟨rfl, rfl⟩
              go_wp2_with fail
              go_meet
              case rel => exact ⟨_, by omega, by omega, HSET.out _, HB2.out.setCell hgs _⟩
            · subst h
              have hb6 := HPB.out ((n : Int) + 1) (by omega)
              obtain ⟨y, hy⟩ : ∃ y, y = placeC c ((n : Int) + 1) := ⟨_, rfl⟩
              have hp6 := fun W => HPC.out ((n : Int) + 1) (by omega) (by omega) W
              rw [← hy] at hb6 hp6
              have HP6 := Lib.hid hp6
              obtain ⟨hb60, hb61⟩ := hb6
              clear hp6 hy
              go_wp2_with fail
              refine (HHAS.out _).mono ?_; rintro e w3 ⟨rfl, rfl⟩
              go_wp2_with fail
              refine (HP6.out _).mono ?_; rintro e w3 ⟨rfl, rfl⟩
              go_wp2_with fail
              go_meet
              case rel => exact ⟨_, by omega, by omega, HSET.out _, HB2.out.setCell hgs _⟩
            · subst h
              have hb6 := HPB.out ((n : Int) + 1) (by omega)
              obtain ⟨y, hy⟩ : ∃ y, y = placeC c ((n : Int) + 1) := ⟨_, rfl⟩
              have hp6 := fun W => HPC.out ((n : Int) + 1) (by omega) (by omega) W
              rw [← hy] at hb6 hp6
              have HP6 := Lib.hid hp6
              obtain ⟨hb60, hb61⟩ := hb6
              clear hp6 hy
              go_wp2_with fail
              refine (HHAS.out _).mono ?_; rintro e w3 ⟨rfl, rfl⟩
              go_wp2_with fail
              refine (HP6.out _).mono ?_; rintro e w3 ⟨rfl, rfl⟩
              go_wp2_with fail
              go_meet
              case rel => exact ⟨_, by omega, by omega, HSET.out _, HB2.out.setCell hgs _⟩
            · subst h
              have hb6 := HPB.out ((n : Int) + 1) (by omega)
              obtain ⟨y, hy⟩ : ∃ y, y = placeC c ((n : Int) + 1) := ⟨_, rfl⟩
              have hp6 := fun W => HPC.out ((n : Int) + 1) (by omega) (by omega) W
              rw [← hy] at hb6 hp6
              have HP6 := Lib.hid hp6
              obtain ⟨hb60, hb61⟩ := hb6
              clear hp6 hy
              go_wp2_with fail
              refine (HHAS.out _).mono ?_; rintro e w3 ⟨rfl, rfl⟩
              go_wp2_with fail
              refine (HP6.out _).mono ?_; rintro e w3 ⟨rfl, rfl⟩
              go_wp2_with fail
              go_meet
              case rel => exact ⟨_, by omega, by omega, HSET.out _, HB2.out.setCell hgs _⟩
            · subst h
              have hb6 := HPB.out 6 (by omega)
              obtain ⟨y, hy⟩ : ∃ y, y = placeC c 6 := ⟨_, rfl⟩
              have hp6 := fun W => HPC.out 6 (by omega) (by omega) W
              rw [← hy] at hb6 hp6
              have HP6 := Lib.hid hp6
              obtain ⟨hb60, hb61⟩ := hb6
              clear hp6 hy
              go_wp2_with fail
              refine (HHAS.out _).mono ?_; rintro e w3 ⟨rfl, rfl⟩
              go_wp2_with fail
              refine (HP6.out _).mono ?_; rintro e w3 ⟨rfl, rfl⟩
              go_wp2_with fail
              go_meet
              case rel => exact ⟨_, by omega, by omega, HSET.out _, HB2.out.setCell hgs _⟩
            · subst h
              have hb6 := HPB.out 15 (by omega)
              obtain ⟨y, hy⟩ : ∃ y, y = placeC c 15 := ⟨_, rfl⟩
              have hp6 := fun W => HPC.out 15 (by omega) (by omega) W
              rw [← hy] at hb6 hp6
              have HP6 := Lib.hid hp6
              obtain ⟨hb60, hb61⟩ := hb6
              clear hp6 hy
              go_wp2_with fail
              refine (HHAS.out _).mono ?_; rintro e w3 ⟨rfl, rfl⟩
              go_wp2_with fail
              refine (HP6.out _).mono ?_; rintro e w3 ⟨rfl, rfl⟩
              go_wp2_with fail
              go_meet
              case rel => exact ⟨_, by omega, by omega, HSET.out _, HB2.out.setCell hgs _⟩
        case rest =>
          obtain ⟨kk, hk0, hk1, hblk, hb3⟩ := hcut
          have e0 : wc.cell? ⟨g, 0, none⟩ = some (.int .i64 q) := by rw [cell_of_row wc g 0 _ _ _ hblk]; rfl
          have e1 : wc.cell? ⟨g, 1, none⟩ = some (.int .i32 kk) := by rw [cell_of_row wc g 1 _ _ _ hblk]; rfl
          have hg3 : wr.grownBy wc none := ⟨hb3.os, hb3.tape, hb3.output, hb3.size, fun j hj _ => hb3.block j hj⟩
          have HR3 := Lib.hid (HROW.out.kept hg3 (Classical.em _))
          have HB3 := Lib.hid (HB.out.trans (hb3.mono HB.out.size))
          have hsz3 := HB3.out.size
          have HFP := Lib.hid (show FitP (q, kk) from ⟨WalkArith.wf_i64 (by omega), WalkArith.wf_i32 (by omega)⟩)
          clear hg3 hblk hb3 d0 d1 f1
          go_wp2_with (at_builtin; refine app_own _ elemC rfl _ _ rfl w.heap.size _ k (codes l) rfl (HR3.out.alloc _) _ 1 (codes [(q, kk)]) rfl (rd_new _ _ _ _ _ (by simp) (by simp [maxLen])) (codes_one _) (by simp only [maxLen]; omega) (by omega) (by simp; omega) ?_; intro v3 w3 ho3 hg3)
          go_roundw
          case rel =>
            refine ⟨k + 1, l ++ [(q, kk)], by omega, by go_num, by rw [List.length_append, HL.out]; rfl, ?_, by rw [codes_append]; exact ho3, below_of_grown (HB3.out.alloc hsz3 _) (by simp; omega) (HR3.out.alloc _) (Nat.le_refl _) rfl hg3⟩
            intro p hp
            rcases List.mem_append.1 hp with h | h
            · exact HF.out p h
            · simp at h; rw [h]; exact HFP.out
          case measure => simp [intOf]; omega
    · obtain rfl : k = n := by omega
      clear hl hf hrow hb
      go_wp2_with (at_builtin; refine app_own _ elemC rfl _ _ rfl w.heap.size _ k (codes l) rfl (HROW.out.alloc _) _ 1 (codes [(0, 0)]) rfl (rd_new _ _ _ _ _ (by simp) (by simp [maxLen])) (codes_one _) (by simp only [maxLen]; omega) (by omega) (by simp; omega) ?_; intro v3 w3 ho3 hg3)
      have hb3 := below_of_grown (HB.out.alloc hbs (.cells (codes [(0, 0)]).toArray 36)) (by simp; omega) (HROW.out.alloc _) (Nat.le_refl _) rfl hg3
      have hrd := rd_of_owns ho3
      rw [← codes_append] at hrd
      obtain ⟨va, vc, rfl, _, _, _⟩ := rd_shape hrd
      have hres : MadeRes k w (.returned (.slice va (k + 1) vc)) w3 := ⟨va, vc, _, _, rfl, pairs_of_rd (by rw [List.length_append, HL.out]; rfl) hrd (fun p hp => by
        rcases List.mem_append.1 hp with h | h
        · exact HF.out p h
        · simp at h; rw [h]; exact ⟨by decide, by decide⟩), hb3⟩
      have HRES := Lib.hid hres
      clear hrd hb3 hres
      go_wp2_with fail
      go_ret
      exact HRES.out
end Go.Proofs.Ytlnldkciiphidaa
