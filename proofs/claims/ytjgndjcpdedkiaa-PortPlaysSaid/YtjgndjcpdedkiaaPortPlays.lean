/- The walk of PortPlays. -/
import Derived.Test.YtjgndjcpdedkiaaPort2
import Derived.Test.YtjgndjcpdedkiaaPairs
import Derived.Deep.CutBlock
import Derived.Deep.RegionLawGrows
namespace Go.Proofs.Ytjgndjcpdedkiaa
open Go.RowKit Go.Waf Go.Conc
set_option maxRecDepth 100000
set_option linter.unusedVariables false

theorem elemB : Elem Try.prog 22 5 1 1 := Elem.mk' (z := .int .u8 0) Try.underlying22 (by kernel_rfl) rfl (by decide)
/-- A port and its twin, a list of bytes. -/
structure Plays (w0 wr : World) (B g h M : Nat) (a : Option Addr) (cap : Nat) (q : List Int) (shut : Bool) : Prop where
  port : PortAt wr B g h M q shut
  row : Rd wr 1 (.slice a q.length cap) q.length (byt q)
  far : ∀ k, (Value.slice a q.length cap).ownBlock = some k → k ≠ g ∧ k ≠ h
  base : w0.heap.size ≤ B
  below : Below w0.heap.size w0 wr
theorem Plays.below_h {w0 wr w' : World} {B g h M : Nat} {a : Option Addr} {cap : Nat} {q : List Int} {shut : Bool} (hp : Plays w0 wr B g h M a cap q shut) (hf : Fr (fun k => k = h) wr w') : Below w0.heap.size w0 w' :=
  hp.below.trans (hf.below hp.below.size fun i hi hk => by have := hp.port.base; have := hp.base; omega)
theorem Plays.below_g {w0 wr w' : World} {B g h M : Nat} {a : Option Addr} {cap : Nat} {q : List Int} {shut : Bool} (hp : Plays w0 wr B g h M a cap q shut) (hf : Fr (fun k => k = g) wr w') : Below w0.heap.size w0 w' :=
  hp.below.trans (hf.below hp.below.size fun i hi hk => by have := hp.port.base; have := hp.base; omega)
theorem Plays.closed {w0 wr w' : World} {B g h M : Nat} {a : Option Addr} {cap : Nat} {q : List Int} {shut : Bool} (hp : Plays w0 wr B g h M a cap q shut) (hp' : PortAt w' B g h M q true) (hf : Fr (fun k => k = g) wr w') : Plays w0 w' B g h M a cap q true :=
  ⟨hp', hf.rd hp.row (fun k hk e => (hp.far k hk).1 e), hp.far, hp.base, hp.below_g hf⟩
theorem Plays.drewN {w0 wr : World} {B g h M : Nat} {a : Option Addr} {cap : Nat} {q : List Int} {shut : Bool} (hp : Plays w0 wr B g h M a cap q shut) (m : Nat) : Plays w0 (wr.drewN m) B g h M a cap q shut :=
  ⟨hp.port.fr ((Fr.refl (fun _ => False) wr).drewN m) (fun h => h) (fun h => h), ((Fr.refl (fun _ => False) wr).drewN m).rd hp.row (fun _ _ h => h), hp.far, hp.base, below_drewN hp.below m⟩
theorem Plays.popped {w0 wr w' : World} {B g h M b off : Nat} {cap : Nat} {c : Int} {q : List Int} {shut : Bool} (hp : Plays w0 wr B g h M (some ⟨b, off, none⟩) cap (c :: q) shut) (hp' : PortAt w' B g h M q shut) (hf : Fr (fun k => k = h) wr w') :
    (cap = 1 → Plays w0 w' B g h M (some ⟨b, off, none⟩) 0 q shut) ∧ (cap ≠ 1 → Plays w0 w' B g h M (some ⟨b, off + 1, none⟩) (cap - 1) q shut) := by
  have hr := hf.rd hp.row (fun k hk e => (hp.far k hk).2 e)
  obtain ⟨hl, a', c', he, h1, h2, h3, h4⟩ := hr
  cases he
  simp only [List.length_cons] at h1
  obtain ⟨b', off', e1, hc⟩ := h4 (by simp)
  cases e1
  constructor
  · intro hcap
    have hq : q = [] := List.eq_nil_of_length_eq_zero (by omega)
    subst hq
    exact ⟨hp', ⟨rfl, _, _, rfl, Nat.le_refl _, by simp [maxLen], fun _ => rfl, fun h => absurd h (by simp)⟩, fun k hk => hp.far k hk, hp.base, hp.below_h hf⟩
  · intro hcap
    refine ⟨hp', ⟨by simp [byt], _, _, rfl, by omega, by omega, by simp, fun hn => ⟨b, off + 1, rfl, fun j u hu => ?_⟩⟩, fun k hk => hp.far k hk, hp.base, hp.below_h hf⟩
    rw [Nat.add_assoc, Nat.add_comm 1 j]
    exact hc (j + 1) u (by simpa [byt] using hu)
theorem Plays.pushed {w0 wr w4 w5 : World} {B g h M : Nat} {a a' : Option Addr} {cap cap' : Nat} {c : Int} {q : List Int} (hp : Plays w0 wr B g h M a cap q false) (hp' : PortAt w4 B g h M (q ++ [c]) false) (hf : Fr (fun k => k = h) wr w4)
    (ho : w5.ownsRow w4.heap.size 5 1 (.slice a' (q.length + 1) cap') (q.length + 1) (byt q ++ byt [c])) (hb : Below w4.heap.size w4 w5) : Plays w0 w5 B g h M a' cap' (q ++ [c]) false := by
  have hl : (q ++ [c]).length = q.length + 1 := by simp
  refine ⟨hp'.keep hb (Nat.le_refl _), ?_, ?_, hp.base, (hp.below_h hf).trans (hb.mono (hp.below_h hf).size)⟩
  · rw [hl, byt_append]; exact rd_of_owns ho
  · rw [hl]
    intro k hk
    have := (ho.lt k hk).1
    have := hp'.lt
    omega

/-- append onto a slice without room, as one step of a region that draws its order. -/
theorem step_app_full {P : Program} {ops : Array Oper} {o : Oper} {a : Act} {w : World} {K : Act → World → Prop} {Q : Exit → Act → World → Prop} {X : Prop} {t e size bytes : Nat} (E : Elem P t e size bytes) (hgd : o.guard = none) (s x : Operand)
    (ho : o.op = .call { callee := .builtin .append, args := #[s, x], argTypes := #[t, t] }) (ao : Option Addr) (n : Nat) (xs : List Value) (hs : a.eval s = .slice ao n n) (hown : Rd w size (.slice ao n n) n xs)
    (ad : Addr) (m c : Nat) (news : List Value) (hx : a.eval x = .slice (some ad) m c) (hr : Rd w size (.slice (some ad) m c) m news) (h1 : ∀ u ∈ news, u.oneCell' = true) (hm : 0 < m) (h63 : n + m ≤ maxLen) (hbytes : (n + m) * bytes ≤ 140737488355328)
    (hK : ∀ v' w', w'.ownsRow w.heap.size e size v' (n + m) (xs ++ news) → Below w.heap.size w w' → K (a.put o.dst v') w') :
    if Region.wanted o (yielded ops a.tmps) = true then Oper.wp P o a w K Q else X := by
  obtain ⟨i, z, hi, hz, hsi, hb, hzs⟩ := E.info
  obtain ⟨hl, ad', cap, he, c1, c2, c3, c4⟩ := hr
  cases he
  obtain ⟨hl', ao', cap', he', d1, d2, d3, d4⟩ := hown
  cases he'
  refine step_append_grows hgd s x t ho e i z size bytes E.und hi hz hsi hb hzs E.pos ao n n xs hs (fun h => ⟨by have := d3 h; omega, d3 h⟩) hl' ?_ ad m c news hx hl ?_ h1 (by omega) h63 hbytes (fun v' w' h2 h3 => hK v' w' h2 (below_of_grown_none (Below.refl _ _) (Nat.le_refl _) h3))
  · intro b hb' j u hu
    have hn : 0 < n := by
      rcases Nat.eq_zero_or_pos n with h0 | h0
      · subst h0
        obtain rfl : xs = [] := List.eq_nil_of_length_eq_zero (by simpa using hl')
        simp at hu
      · exact h0
    obtain ⟨b', off, e1, hc⟩ := d4 hn
    rw [hb'] at e1; cases e1
    rw [Addr.add_lit]; exact hc j u hu
  · intro j u hu
    obtain ⟨b', off, e1, hc⟩ := c4 hm
    cases e1
    rw [Addr.add_lit]; exact hc j u hu

set_option maxHeartbeats 3200000 in
theorem portPlays_walk (room : Int) (a1 : Option Addr) (n1 c1 : Nat) (V N : Nat → Int) (w : World) (hr0 : -9223372036854775808 ≤ room) (hr1 : room ≤ 9223372036854775807) (hp : PairsAt w .u8 .u8 a1 n1 c1 V N) :
    Calls Try.prog 4 #[.int .i64 room, .slice a1 n1 c1] w fun e w' => e = .returned (.bool true) ∧ Below w.heap.size w w' := by
  have hle := hp.le
  have hcap := hp.cap63
  by_cases hbig : 100 < n1
  · go_enter Try.func4, Try.ntmps4
    go_wp2_with fail
    refine (known10 _).mono ?_; rintro e w1 ⟨rfl, hb1⟩
    go_wp2_with fail
    go_ret
    exact ⟨rfl, hb1⟩
  have HP := Lib.hid hp
  clear hp
  obtain ⟨r2, hr2⟩ : ∃ r2, Int.tmod room 12 = r2 := ⟨_, rfl⟩
  have hra : r2.natAbs < 12 := by rw [← hr2, Int.natAbs_tmod]; exact Nat.mod_lt _ (by decide)
  go_enter Try.func4, Try.ntmps4
  go_wp2_with fail
  refine (known10 _).mono ?_; rintro e w1 ⟨rfl, b1⟩
  have B1 := Lib.hid b1
  clear b1
  go_wp2_with fail
  obtain ⟨W, hW⟩ : ∃ W, W = w1.alloc (Obj.cells #[Value.int .i64 room, Value.int .i64 r2] 3) := ⟨_, rfl⟩
  have BW := Lib.hid (show Below w.heap.size w W by rw [hW]; exact B1.out.alloc B1.out.size _)
  have e0 : W.cell? ⟨w1.heap.size, 0, none⟩ = some (.int .i64 room) := by rw [hW, World.cell?_alloc_new]; rfl
  have e1 : W.cell? ⟨w1.heap.size, 1, none⟩ = some (.int .i64 r2) := by rw [hW, World.cell?_alloc_new]; rfl
  have HE0 := Lib.hid e0
  have HE1 := Lib.hid e1
  rw [← hW]
  clear hW e0 e1 hr2
  go_loopw [27] (fun i wr => ∃ k : Nat, k ≤ 2 ∧ i = .int .i64 (k : Int) ∧ Below W.heap.size W wr) (fun i _ => 2 - (intOf i).toNat)
  case atStart => exact ⟨0, by omega, rfl, Below.refl _ _⟩
  case round =>
    obtain ⟨j, hj, rfl, hbw⟩ := hrel
    have HBW := Lib.hid (BW.out.trans (hbw.mono BW.out.size))
    have cell_keep : ∀ p u, W.cell? p = some u → wr.cell? p = some u := fun p u hc => by
      rw [hbw.cell (p := p) (World.block_lt_of_cell? W _ hc)]; exact hc
    by_cases hlt : j < 2
    · obtain ⟨r, hrc, hrl, hrh⟩ : ∃ r : Int, wr.cell? ⟨w1.heap.size, j, none⟩ = some (.int .i64 r) ∧ -9223372036854775808 ≤ r ∧ r ≤ 9223372036854775807 := by
        rcases (by omega : j = 0 ∨ j = 1) with rfl | rfl
        · exact ⟨room, cell_keep _ _ HE0.out, hr0, hr1⟩
        · exact ⟨r2, cell_keep _ _ HE1.out, by omega, by omega⟩
      obtain ⟨M, hM⟩ : ∃ M : Nat, (r < 1 ∧ M = 1) ∨ (r = M ∧ 1 ≤ M ∧ M ≤ 4096) ∨ (4096 < r ∧ M = 4096) := by
        by_cases h1 : r < 1
        · exact ⟨1, .inl ⟨h1, rfl⟩⟩
        · by_cases h2 : 4096 < r
          · exact ⟨4096, .inr (.inr ⟨h2, rfl⟩)⟩
          · exact ⟨r.toNat, .inr (.inl ⟨by omega, by omega, by omega⟩)⟩
      have HBB := Lib.hid hbw
      obtain ⟨wA, hwA⟩ : ∃ x, x = wr := ⟨_, rfl⟩
      subst hwA
      clear cell_keep hbw
      go_wp2_with fail
      refine (pnew_any _ r M hM).mono ?_; rintro e w2 ⟨g, h, rfl, p2, b2⟩
      have HP2 := Lib.hid p2
      have B2 := Lib.hid b2
      clear p2 b2
      go_upto_region 11 with fail
      go_cut [8] (fun m wx => m = .int .i64 (M : Int) ∧ wx = w2)
      case first =>
        rcases hM with ⟨h1, rfl⟩ | ⟨rfl, h1, h2⟩ | ⟨h1, rfl⟩
        all_goals
          go_wp2_with fail
          go_meet
          case rel => exact ⟨rfl, rfl⟩
      case rest =>
        obtain ⟨rfl, hwc⟩ := hcut
        rw [hwc]
        clear hwc
        have T2 : Plays W w2 wA.heap.size g h M none 0 [] false :=
          ⟨HP2.out, Rd.nil _ _, fun k hk => by simp [Value.ownBlock] at hk, HBB.out.size, HBB.out.trans (B2.out.mono HBB.out.size)⟩
        have HT2 := Lib.hid T2
        clear T2
        have hM4 : M ≤ 4096 := by omega
        clear hM
        go_wp2_with fail
        go_loopw [9, 10, 11] (fun b s i wr => ∃ (k : Nat) (q : List Int) (a : Option Addr) (cap : Nat) (shut : Bool), k ≤ n1 ∧ i = .int .i64 (k : Int) ∧ b = .slice a q.length cap ∧ s = .bool shut ∧ Plays W wr wA.heap.size g h M a cap q shut) (fun _ _ i _ => n1 - (intOf i).toNat)
        case atStart => exact ⟨0, [], none, 0, false, by omega, rfl, rfl, rfl, HT2.out⟩
        case round =>
          obtain ⟨k, q, a, cap, shut, hk, rfl, rfl, rfl, hT⟩ := hrel
          have HT := Lib.hid hT
          have hql := hT.port.le
          obtain ⟨_, _, he, hqc, hcm, _⟩ := rd_shape hT.row
          cases he
          unfold maxLen at hcm
          clear hT
          by_cases hlt2 : k < n1
          · have hact := HP.out.below (BW.out.trans (HT.out.below.mono BW.out.size)) (Nat.le_refl _)
            obtain ⟨ab, ao, rfl, habl, hcs⟩ := hact.cells (by omega)
            obtain ⟨kv, kn⟩ := hcs k hlt2
            obtain ⟨hv0, hv1⟩ := rng_u8 (hact.wf k hlt2).1
            obtain ⟨hn0, hn1⟩ := rng_u8 (hact.wf k hlt2).2
            obtain ⟨v, hv⟩ : ∃ v, v = V k := ⟨_, rfl⟩
            obtain ⟨c, hc⟩ : ∃ c, c = N k := ⟨_, rfl⟩
            have habW : ab < W.heap.size := by
              have := HP.out.below BW.out (Nat.le_refl _)
              obtain ⟨b', o', e', hb', _⟩ := this.cells (by omega)
              cases e'
              exact hb'
            rw [← hv] at kv hv0 hv1
            rw [← hc] at kn hn0 hn1
            obtain ⟨t, ht⟩ : ∃ t, v % 6 = t := ⟨_, rfl⟩
            obtain ⟨t4, ht4⟩ : ∃ t4, c % 4 = t4 := ⟨_, rfl⟩
            have hhg := HT.out.port.base
            have hbase := HT.out.base
            clear hact hcs hv hc
            go_upto_block 4 with fail
            rw [ht]
            go_cut [9, 10] (fun b s wx => ∃ (q : List Int) (a : Option Addr) (cap : Nat) (shut : Bool), b = .slice a q.length cap ∧ s = .bool shut ∧ Plays W wx wA.heap.size g h M a cap q shut)
            case first =>
              by_cases h34 : t = 3 ∨ t = 4
              · cases q with
                | nil =>
                  have HPN := Lib.hid (ppoll_none _ _ _ _ _ _ HT.out.port)
                  rcases h34 with rfl | rfl
                  all_goals
                    go_wp2_with fail
                    refine HPN.out.mono ?_; rintro e w4 ⟨rfl, rfl⟩
                    go_wp2_with fail
                    go_meet
                    case rel => exact ⟨[], a, cap, shut, rfl, rfl, HT.out⟩
                | cons x q =>
                  have HPS := Lib.hid (ppoll_some _ _ _ _ _ _ _ _ HT.out.port)
                  obtain ⟨rb, ro, rfl, hrc⟩ := Rd_at HT.out.row (by simp)
                  have hrow : ∀ w4, Fr (fun k => k = h) wr w4 → w4.cell? ⟨rb, ro, none⟩ = some (.int .u8 x) := fun w4 hf => by
                    have h1 := hrc 0 (.int .u8 x) (by simp [byt])
                    rw [Nat.add_zero] at h1
                    rw [hf.cell (p := ⟨rb, ro, none⟩) (World.block_lt_of_cell? wr _ h1) (fun e => (HT.out.far rb rfl).2 e)]
                    exact h1
                  have HROW := Lib.hid hrow
                  clear hrc hrow
                  have hlq : (x :: q).length = q.length + 1 := rfl
                  simp only [hlq] at hqc ⊢
                  have hz : 0 < ((q.length : Int) + 1) := by omega
                  have hz1 : (1 : Int) ≤ (q.length : Int) + 1 := by omega
                  by_cases hcap1 : cap = 1
                  · subst hcap1
                    rcases h34 with rfl | rfl
                    all_goals
                      go_wp2_with fail
                      refine HPS.out.mono ?_; rintro e w4 ⟨rfl, p4, f4⟩
                      have hx4 := HROW.out w4 f4
                      have T4 := Lib.hid ((HT.out.popped p4 f4).1 rfl)
                      clear p4 f4
                      go_wp2_with fail
                      go_meet
                      case rel =>
                        have hq0 : q.length = 0 := by omega
                        exact ⟨q, _, _, shut, by simp [hq0], rfl, T4.out⟩
                  · rcases h34 with rfl | rfl
                    all_goals
                      go_wp2_with fail
                      refine HPS.out.mono ?_; rintro e w4 ⟨rfl, p4, f4⟩
                      have hx4 := HROW.out w4 f4
                      have T4 := Lib.hid ((HT.out.popped p4 f4).2 hcap1)
                      clear p4 f4
                      go_wp2_with fail
                      go_meet
                      case rel => exact ⟨q, _, _, shut, rfl, rfl, T4.out⟩
              · have q3 : (t == 3) = false := by simp; omega
                have q4 : (t == 4) = false := by simp; omega
                by_cases h5 : t = 5
                · have q5 : (t == 5) = true := by simp [h5]
                  clear h5
                  by_cases hc4 : t4 = 0
                  · have q0 : (t4 == 0) = true := by simp [hc4]
                    clear hc4
                    have HPC := Lib.hid (pclose_any _ _ _ _ _ _ _ HT.out.port)
                    go_wp2_with fail
                    refine HPC.out.mono ?_; rintro e w4 ⟨rfl, p4, f4⟩
                    have T4 := Lib.hid (HT.out.closed p4 f4)
                    clear p4 f4
                    go_wp2_with fail
                    go_meet
                    case rel => exact ⟨q, a, cap, true, rfl, rfl, T4.out⟩
                  · have q0 : (t4 == 0) = false := by simp [hc4]
                    go_wp2_with fail
                    go_meet
                    case rel => exact ⟨q, a, cap, shut, rfl, rfl, HT.out⟩
                · have q5 : (t == 5) = false := by simp [h5]
                  cases shut with
                  | true =>
                    have HPO := Lib.hid (poffer_shut _ _ _ _ _ _ HT.out.port c)
                    go_wp2_with fail
                    refine HPO.out.mono ?_; rintro e w4 ⟨rfl, rfl⟩
                    go_wp2_with fail
                    go_meet
                    case rel => exact ⟨q, a, cap, true, rfl, rfl, HT.out⟩
                  | false =>
                    by_cases hroom : q.length < M
                    · have HPO := Lib.hid (poffer_room _ _ _ _ _ _ HT.out.port c hroom)
                      go_wp2_with fail
                      refine HPO.out.mono ?_; rintro e w4 ⟨rfl, p4, f4⟩
                      have kn4 : w4.cell? ⟨ab, ao + k * 2 + 1, none⟩ = some (.int .u8 c) := by
                        rw [f4.cell (p := ⟨ab, ao + k * 2 + 1, none⟩) (World.block_lt_of_cell? wr _ kn) (fun e => by simp at e; omega)]; exact kn
                      have hal : Below w4.heap.size w4 (w4.drew.alloc (.cells (byt [c]).toArray 5)) := ((Below.refl _ _).drew).alloc (Nat.le_refl _) _
                      have rr := ((f4.rd HT.out.row (fun k hk e => (HT.out.far k hk).2 e)).full).below hal (Nat.le_refl _)
                      have RR := Lib.hid rr
                      have RN := Lib.hid (rd_new w4.drew (byt [c]) 5 1 1 rfl (by simp [maxLen]))
                      have P4 := Lib.hid p4
                      have F4 := Lib.hid f4
                      clear p4 f4 rr
                      go_wp2_with fail
                      go_region_law (refine step_app_full elemB rfl (.tmp 73) (.tmp 79) rfl a q.length (byt q) (by simp [Act.eval]) RR.out ⟨w4.heap.size, 0, none⟩ 1 1 (byt [c]) (by simp [Act.eval]) RN.out (one_byt _) (by omega) (by simp only [maxLen]; omega) (by omega) ?_; intro v5 w5 ho5 b5; obtain ⟨a5, c5, rfl, _, _, _⟩ := owns_shape ho5)
                      all_goals
                        go_wp2_with fail
                        go_meet
                        case rel =>
                          exact ⟨q ++ [c], a5, c5, false, by simp, rfl, HT.out.pushed P4.out F4.out (owns_mono ho5 hal.size) (hal.trans (b5.mono hal.size))⟩
                    · have HPO := Lib.hid (poffer_full _ _ _ _ _ _ HT.out.port c (by omega))
                      go_wp2_with fail
                      refine HPO.out.mono ?_; rintro e w4 ⟨rfl, rfl⟩
                      go_wp2_with fail
                      go_meet
                      case rel => exact ⟨q, a, cap, false, rfl, rfl, HT.out⟩
            case rest =>
              obtain ⟨q', a', cap', shut', rfl, rfl, hT'⟩ := hcut
              have HT' := Lib.hid hT'
              clear hT'
              go_wp2_with fail
              refine (pstate_any _ _ _ _ _ _ _ HT'.out.port).mono ?_; rintro e w6 ⟨rfl, m, rfl⟩
              go_wp2_with fail
              go_roundw
              case rel => exact ⟨k + 1, q', a', cap', shut', by omega, by go_num, rfl, rfl, HT'.out.drewN m⟩
              case measure => simp [intOf]; omega
          · obtain rfl : k = n1 := by omega
            go_wp2_with fail
            go_roundw
            case rel => exact ⟨j + 1, by omega, by go_num, HT.out.below⟩
            case measure => simp [intOf]; omega
    · obtain rfl : j = 2 := by omega
      go_wp2_with fail
      go_ret
      exact ⟨rfl, HBW.out⟩
theorem portPlays_law (a0 : Int) (a1 : Option Addr) (len1 cap1 : Nat) (V N : Nat → Int) (w : World) (w0 : (Lit.int .i64 a0).wf = true) (w1 : PairsAt w .u8 .u8 a1 len1 cap1 V N) :
    Calls Try.prog 4 #[.int .i64 a0, .slice a1 len1 cap1] w fun e w' => e = .returned (.bool true) ∧ Below w.heap.size w w' :=
  portPlays_walk a0 a1 len1 cap1 V N w (rng_i64 w0).1 (rng_i64 w0).2 w1
end Go.Proofs.Ytjgndjcpdedkiaa
