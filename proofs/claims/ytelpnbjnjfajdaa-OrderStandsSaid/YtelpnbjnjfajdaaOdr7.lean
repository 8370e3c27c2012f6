/- Order: the plain function of both; the reference's Order. -/
import Derived.Test.YtelpnbjnjfajdaaOdr6
import Derived.Deep.OwnRows
namespace Go.Proofs.Ytelpnbjnjfajdaa
open Go.RowKit Go.Waf Go.Maps
set_option maxRecDepth 100000
set_option linter.unusedVariables false

/-- Visits in turn. -/
def visAll (M : Nat → Md) (n : Nat) : Nat → Nat → St → Bool × St
  | 0, _, s => (true, s)
  | f + 1, i, s => if (vis M n n s i).1 = true then visAll M n f (i + 1) (vis M n n s i).2 else (false, (vis M n n s i).2)
def st0 : St := ⟨fun _ => false, []⟩
/-- Each name lies where it is first. -/
def Once (M : Nat → Md) (n : Nat) : Prop := ∀ i, i < n → atN M n (M i).name = (i : Int)
open Classical in
noncomputable def ordR (M : Nat → Md) (n : Nat) : List Nat × Int :=
  if 16 < n then ([], 34) else if ¬ Once M n then ([], 43) else if ¬ All M n then ([], 40) else
  if (visAll M n n 0 st0).1 = true then ((visAll M n n 0 st0).2.out, 0) else ([], 41)
theorem free_st0 : ∀ n, free st0.on n = n
  | 0 => rfl
  | n + 1 => by unfold free; rw [free_st0 n]; rfl
theorem RW.start (w0 w : World) (a : Option Addr) (n cap : Nat) (M : Nat → Md) (ob q : Nat) (o1 o2 : Obj) (hb : Below w0.heap.size w0 w) (h1 : o1 = .cells (madeCells #[.int .i64 0] n) 3 (0, 0)) (hob : ob = w.heap.size) (hq : q = w.heap.size + 1)
    (h2 : o2 = .cells #[.slice a n cap, .slice (some ⟨ob, 0, none⟩) n n, .slice none 0 0] 60 (0, 0)) : RW w0 ((w.alloc o1).alloc o2) q ob a n cap M (.slice none 0 0) st0 := by
  subst h1 hob hq h2
  have hs := hb.size
  refine ⟨heap_alloc2_new w _ _, ?_, World.ownsRow_nil _ _ _ _, by omega, hs, by omega, by simp [Value.ownBlock], by simp [Value.ownBlock], by rw [free_st0]; simp [st0], (hb.alloc hs _).alloc (by simp; omega) _⟩
  rw [blk_alloc (heap_alloc_new w _)]
  have : (madeCells #[Value.int .i64 0] n) = intsA n (stI st0) := by
    apply Array.ext
    · simp [intsA, size_madeCells]
    · intro j h1 h2; simp [madeCells, Nat.mod_one, intsA, stI, st0]
  rw [this]

set_option maxHeartbeats 6400000 in
theorem order_ref (w0 w : World) (a : Option Addr) (n cap : Nat) (M : Nat → Md) (hp : ModsAt w a n cap M) :
    Calls Try.prog 8 #[.slice a n cap] w fun e w' => (∃ v, e = .returned (.tuple #[v, .int .i64 (ordR M n).2]) ∧ Rd w' 1 v (ordR M n).1.length (nats (ordR M n).1)) ∧ Below w.heap.size w w' := by
  have hle := hp.le
  have hcap := hp.cap63
  by_cases hn : 16 < n
  · have e : ordR M n = ([], 34) := by unfold ordR; rw [if_pos hn]
    rw [e]
    clear hp
    go_enter Try.func8, Try.ntmps8
    go_wp2_with fail
    go_ret2
    exact ⟨⟨_, rfl, Rd.nil _ _⟩, Below.refl _ _⟩
  · have HP := Lib.hid hp
    clear hp
    go_enter Try.func8, Try.ntmps8
    go_wp2_with fail
    go_loopw [4] (fun z wr => ∃ k : Nat, k ≤ n ∧ z = .int .i64 (k : Int) ∧ (∀ j, j < k → atN M n (M j).name = (j : Int)) ∧ wr = w) (fun z _ => n - (intOf z).toNat)
    case atStart => exact ⟨0, by omega, rfl, fun j hj => absurd hj (by omega), rfl⟩
    case round =>
      obtain ⟨k, hk, rfl, hon, rfl⟩ := hrel
      by_cases hlt : k < n
      · obtain ⟨ab, ao, rfl, hc⟩ := HP.out.cells (by omega)
        obtain ⟨iv, hr, d0, _⟩ := hc k hlt
        obtain ⟨x, hx⟩ : ∃ x, x = (M k).name := ⟨_, rfl⟩
        rw [← hx] at d0
        have HAT := Lib.hid (at_ref wr _ n cap M x HP.out)
        have HON := Lib.hid hon
        have HX := Lib.hid hx
        obtain ⟨y, hy⟩ : ∃ y, y = atN M n x := ⟨_, rfl⟩
        rw [← hy] at HAT
        have HY := Lib.hid hy
        clear hc hr hon hx hy
        go_wp2_with fail
        refine HAT.out.mono ?_
        rintro e w1 ⟨rfl, rfl⟩
        by_cases he : y = (k : Int)
        · have HE := Lib.hid he
          subst he
          go_wp2_with fail
          go_roundw
          case rel => exact ⟨k + 1, by omega, by go_num, fun j hj => by
            rcases Nat.lt_succ_iff_lt_or_eq.1 hj with h | h
            · exact HON.out j h
            · rw [h, ← HX.out, ← HY.out], trivial⟩
          case measure => simp [intOf]; omega
        · have e : ordR M n = ([], 43) := by
            unfold ordR
            rw [if_neg hn, if_pos (fun ho => he (by rw [HY.out, HX.out]; exact ho k hlt))]
          have E := Lib.hid e
          clear e
          go_wp2_with fail
          go_ret2
          exact ⟨⟨.slice none 0 0, by rw [E.out]; rfl, by rw [E.out]; exact Rd.nil _ _⟩, Below.refl _ _⟩
      · obtain rfl : k = n := by omega
        have HON := Lib.hid (show Once M k from hon)
        clear hon
        obtain ⟨wo, rfl⟩ : ∃ wo : World, wo = wr := ⟨_, rfl⟩
        go_wp2_with fail
        go_loopw [5] (fun z wz => ∃ j : Nat, j ≤ k ∧ z = .int .i64 (j : Int) ∧ (∀ i, i < j → ∀ x ∈ needsOf (M i).imps, 0 ≤ atN M k x) ∧ Below wo.heap.size wo wz) (fun z _ => k - (intOf z).toNat)
        case atStart => exact ⟨0, by omega, rfl, fun j hj => absurd hj (by omega), Below.refl _ _⟩
        case round =>
          obtain ⟨j, hj, rfl, hall, hb⟩ := hrel
          obtain ⟨wz, rfl⟩ : ∃ wz : World, wz = wr := ⟨_, rfl⟩
          by_cases hlt : j < k
          · have hpz := HP.out.below hb (Nat.le_refl _)
            obtain ⟨ab, ao, rfl, hc⟩ := hpz.cells (by omega)
            obtain ⟨iv, hr, d0, d1, d2, d3, d4, d5, d6, d7⟩ := hc j hlt
            have hsm := hpz.small j hlt
            obtain ⟨L, hL⟩ : ∃ L, L = needsOf (M j).imps := ⟨_, rfl⟩
            have hN : Calls Try.prog 12 #[.agg #[.string (M j).name, iv, .slice none 0 0, .slice none 0 0, .slice none 0 0, .slice none 0 0, .slice none 0 0, .slice none 0 0]] wz (OwnRet wz.heap.size 9 1 L.length (strs L) wz) := by
              rw [hL]; exact needs_ref wz (M j).name iv (M j).imps hsm hr
            have hLl : L.length ≤ 1000 := by rw [hL]; have := needsOf_le (M j).imps; omega
            have HN := Lib.hid hN
            have HL := Lib.hid hL
            have HALL := Lib.hid hall
            have HB := Lib.hid hb
            clear hpz hc hr hN hL hall hb
            go_wp2_with fail
            refine HN.out.mono ?_
            rintro e w2 ⟨v, rfl, hrow, hb2⟩
            obtain ⟨va, vc, rfl, v1, v2, v3⟩ := owns_shape hrow
            unfold maxLen at v2
            have HB2 := Lib.hid (HB.out.trans (hb2.mono HB.out.size))
            have HROW := Lib.hid hrow
            clear hrow hb2
            go_wp2_with fail
            go_loopw [7] (fun z wy => ∃ m : Nat, m ≤ L.length ∧ z = .int .i64 (m : Int) ∧ (∀ i, i < m → 0 ≤ atN M k (L.getD i ByteArray.empty)) ∧ wy = w2) (fun z _ => L.length - (intOf z).toNat)
            case atStart => exact ⟨0, by omega, rfl, fun j hj => absurd hj (by omega), rfl⟩
            case round =>
              obtain ⟨m, hm, rfl, hin, hwy⟩ := hrel
              obtain ⟨wy, rfl⟩ : ∃ wy : World, wy = wr := ⟨_, rfl⟩
              subst hwy
              by_cases hlm : m < L.length
              · obtain ⟨g, vc', hvv, hgb, hgs, _, _⟩ := owns_some HROW.out (by omega)
                cases hvv
                obtain ⟨x, hx⟩ : ∃ x, x = L.getD m ByteArray.empty := ⟨_, rfl⟩
                have dg : wy.cell? ⟨g, m, none⟩ = some (.string x) := by rw [HROW.out.cellAt m (by omega), strs_get _ _ hlm, hx]
                have HAT := Lib.hid (at_ref wy _ k cap M x (HP.out.below HB2.out (Nat.le_refl _)))
                obtain ⟨y, hy⟩ : ∃ y, y = atN M k x := ⟨_, rfl⟩
                rw [← hy] at HAT
                have HX := Lib.hid hx
                have HY := Lib.hid hy
                have HIN := Lib.hid hin
                clear hx hy hin
                go_wp2_with fail
                refine HAT.out.mono ?_
                rintro e w1 ⟨rfl, rfl⟩
                by_cases hneg : y < 0
                · have e : ordR M k = ([], 40) := by
                    unfold ordR
                    rw [if_neg hn, if_neg (fun h => h HON.out), if_pos (fun hA => by
                      have := hA j hlt x (by rw [← HL.out, HX.out]; exact mem_getD hlm)
                      rw [← HY.out] at this; omega)]
                  have E := Lib.hid e
                  clear e
                  go_wp2_with fail
                  go_ret2
                  exact ⟨⟨.slice none 0 0, by rw [E.out]; rfl, by rw [E.out]; exact Rd.nil _ _⟩, HB2.out⟩
                · go_wp2_with fail
                  go_roundw
                  case rel => exact ⟨m + 1, by omega, by go_num, fun i hi => by
                    rcases Nat.lt_succ_iff_lt_or_eq.1 hi with h | h
                    · exact HIN.out i h
                    · rw [h, ← HX.out, ← HY.out]; omega, trivial⟩
                  case measure => simp [intOf]; omega
              · obtain rfl : m = L.length := by omega
                have HALL2 := Lib.hid (show ∀ i, i < j + 1 → ∀ x ∈ needsOf (M i).imps, 0 ≤ atN M k x from fun i hi x hx => by
                  rcases Nat.lt_succ_iff_lt_or_eq.1 hi with h | h
                  · exact HALL.out i h x hx
                  · subst h
                    rw [← HL.out] at hx
                    obtain ⟨t, ht, rfl⟩ := List.getElem_of_mem hx
                    have := hin t ht
                    simpa [ht] using this)
                clear hin
                go_wp2_with fail
                go_roundw
                case rel => exact ⟨j + 1, by omega, by go_num, HALL2.out, HB2.out⟩
                case measure => simp [intOf]; omega
          · obtain rfl : j = k := by omega
            have HA := Lib.hid (show All M j from hall)
            have HB := Lib.hid hb
            clear hall hb
            have hmk := run_make_row' (P := Try.prog) 28 3 (.int .i64 0) 8 Try.underlying28 (by kernel_rfl) rfl .i64 .i64 j (by omega) (by omega)
            have HRW := Lib.hid (RW.start wo wz a j cap M wz.heap.size (wz.heap.size + 1) _ _ HB.out rfl rfl rfl rfl)
            have hO : ¬ ¬ Once M j := fun h => h HON.out
            have hA' : ¬ ¬ All M j := fun h => h HA.out
            have HO1 := Lib.hid (show ordR M j = if (visAll M j j 0 st0).1 = true then ((visAll M j j 0 st0).2.out, 0) else ([], 41) from by unfold ordR; rw [if_neg hn, if_neg hO, if_neg hA'])
            clear hO hA'
            go_wp2_with fail
            go_loopw [9] (fun z wy => ∃ (m : Nat) (s : St) (ov : Value), m ≤ j ∧ z = .int .i64 (m : Int) ∧ visAll M j j 0 st0 = visAll M j (j - m) m s ∧ RW wo wy (wz.heap.size + 1) wz.heap.size a j cap M ov s) (fun z _ => j - (intOf z).toNat)
            case atStart => exact ⟨0, st0, _, by omega, rfl, rfl, HRW.out⟩
            case round =>
              obtain ⟨m, s, ov, hm, rfl, hv, hW⟩ := hrel
              obtain ⟨wy, rfl⟩ : ∃ wy : World, wy = wr := ⟨_, rfl⟩
              by_cases hlm : m < j
              · have hV := visit_ref (by omega) HP.out HA.out j wy ov s m hW hlm (free_le _ _)
                have e1 : j - m = (j - (m + 1)) + 1 := by omega
                rw [e1, visAll] at hv
                have HV := Lib.hid hV
                have HVV := Lib.hid hv
                clear hV hv e1 hW
                go_wp2_with fail
                refine HV.out.mono ?_
                rintro e w4 ⟨ov4, he, hp4, hf4, hl4⟩
                cases hb : (vis M j j s m).1
                · rw [hb] at he
                  subst he
                  have hr : (visAll M j j 0 st0).1 = false := by rw [HVV.out, if_neg (by rw [hb]; simp)]
                  have E := Lib.hid (show ordR M j = ([], 41) from by rw [HO1.out, if_neg (by rw [hr]; simp)])
                  have HOLD := Lib.hid hp4.old
                  clear hr hp4 hf4 hl4 hb
                  go_wp2_with fail
                  go_ret2
                  exact ⟨⟨.slice none 0 0, by rw [E.out]; rfl, by rw [E.out]; exact Rd.nil _ _⟩, HOLD.out⟩
                · rw [hb] at he
                  subst he
                  have E := Lib.hid (show visAll M j j 0 st0 = visAll M j (j - (m + 1)) (m + 1) (vis M j j s m).2 from by rw [HVV.out, if_pos hb])
                  have HP4 := Lib.hid hp4
                  clear hp4 hf4 hl4 hb
                  go_wp2_with fail
                  go_roundw
                  case rel => exact ⟨m + 1, _, ov4, by omega, by go_num, E.out, HP4.out⟩
                  case measure => simp [intOf]; omega
              · obtain rfl : m = j := by omega
                rw [Nat.sub_self, visAll] at hv
                have E := Lib.hid (show ordR M m = (s.out, 0) from by rw [HO1.out, hv]; simp)
                have c2 : wy.cell? ⟨wz.heap.size + 1, 2, none⟩ = some ov := by rw [cell_of_row wy _ 2 _ _ _ hW.blk]; rfl
                have HOLD := Lib.hid hW.old
                have HROW := Lib.hid (rd_of_owns hW.row)
                obtain ⟨oa, oc, rfl, o1, o2, o3⟩ := owns_shape hW.row
                clear hv hW
                go_wp2_with fail
                go_ret2
                exact ⟨⟨_, by rw [E.out]; rfl, by rw [E.out]; exact HROW.out⟩, HOLD.out⟩
end Go.Proofs.Ytelpnbjnjfajdaa
