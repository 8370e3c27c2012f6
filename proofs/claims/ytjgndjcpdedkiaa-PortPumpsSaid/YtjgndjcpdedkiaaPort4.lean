/- Contracts of Pump. -/
import Derived.Test.YtjgndjcpdedkiaaPort3
import Derived.LaidEqlPtr
namespace Go.Proofs.Ytjgndjcpdedkiaa
open Go.RowKit Go.Waf Go.Conc
set_option maxRecDepth 100000
set_option linter.unusedVariables false

theorem place30_any (x : Int) (w : World) : Calls Try.prog 52 #[.int .i64 x, .int .i64 30] w fun e w' => (∃ y : Int, 0 ≤ y ∧ y < 30 ∧ e = .returned (.int .i64 y)) ∧ w = w' := by
  obtain ⟨r, hr⟩ : ∃ r, Int.tmod x 30 = r := ⟨_, rfl⟩
  have h0 : r.natAbs < 30 := by rw [← hr, Int.natAbs_tmod]; exact Nat.mod_lt _ (by decide)
  have h1 : -30 < r ∧ r < 30 := by omega
  obtain ⟨h1, h2⟩ := h1
  by_cases h : r < 0
  · go_enter Try.func52, Try.ntmps52
    go_wp2_with fail
    go_ret
    exact ⟨⟨_, by omega, by omega, rfl⟩, rfl⟩
  · go_enter Try.func52, Try.ntmps52
    go_wp2_with fail
    go_ret
    exact ⟨⟨_, by omega, by omega, rfl⟩, rfl⟩

theorem pump_nil1 (w : World) (p : Value) (most : Int) : Calls Try.prog 53 #[.pointer none, p, .int .i64 most] w fun e w' => e = .returned (.int .i64 0) ∧ w = w' := by
  go_enter Try.func53, Try.ntmps53
  go_wp2_with fail
  go_ret
  exact ⟨rfl, rfl⟩
theorem pump_nil2 (w : World) (g : Nat) (most : Int) : Calls Try.prog 53 #[.pointer (some ⟨g, 0, none⟩), .pointer none, .int .i64 most] w fun e w' => e = .returned (.int .i64 0) ∧ w = w' := by
  go_enter Try.func53, Try.ntmps53
  go_wp2_with fail
  go_ret
  exact ⟨rfl, rfl⟩

theorem len_chan (w : World) (B g h cap : Nat) (q : List Int) (shut : Bool) (hp : PortAt w B g h cap q shut) (ty : TypeId) :
    (Builtin.len_ #[72] ty #[.chan (some h)]).run Try.prog w = .ok (.int .i64 (q.length : Nat)) w := by
  obtain ⟨s, r, hc⟩ := hp.chn
  have := run_len_chan (P := Try.prog) (w := w) 72 ty Try.underlying72 hc
  rw [this]; simp [byt, goInt]
theorem infoPort : ∃ j, Try.prog.info? 74 = some j ∧ j.size ≠ 0 := by
  have h : (Try.prog.info? 74).map (·.size) = some 2 := by kernel_rfl
  obtain ⟨i, hi, hb⟩ := Option.map_eq_some_iff.1 h
  exact ⟨i, hi, by rw [hb]; decide⟩
theorem ptr_other (w : World) (B g h cap : Nat) (q : List Int) (shut : Bool) (hp : PortAt w B g h cap q shut) (B' g' h' cap' : Nat) (q' : List Int) (shut' : Bool) (hp' : PortAt w B' g' h' cap' q' shut') (hne : g ≠ g') :
    (binOp .eql 26 (.pointer (some ⟨g, 0, none⟩)) (.pointer (some ⟨g', 0, none⟩))).run Try.prog w = .ok (.bool false) w := by
  obtain ⟨j, hj, hz⟩ := infoPort
  exact run_eql_ptr_other w Try.underlying26 hj hz (fun e => hne (by cases e; rfl)) hp.blk hp'.blk
theorem ptr_same (w : World) (g : Nat) : (binOp .eql 26 (.pointer (some ⟨g, 0, none⟩)) (.pointer (some ⟨g, 0, none⟩))).run Try.prog w = .ok (.bool true) w := by
  obtain ⟨j, hj, hz⟩ := infoPort
  exact run_eql_ptr_same w _ Try.underlying26 hj
theorem PortAt.drewN {w : World} {B g h cap : Nat} {q : List Int} {shut : Bool} (hp : PortAt w B g h cap q shut) (m : Nat) : PortAt (w.drewN m) B g h cap q shut :=
  hp.fr ((Fr.refl (fun _ => False) w).drewN m) (fun h => h) (fun h => h)

set_option maxHeartbeats 1600000 in
/-- Between two ports. -/
theorem pump_two (w : World) (B g c C B' g' c' C' : Nat) (q q' : List Int) (shut : Bool) (hp : PortAt w B g c C q false) (hp' : PortAt w B' g' c' C' q' shut) (hgg : g ≠ g') (hcc : c ≠ c') (hgc : g ≠ c') (hcg : c ≠ g')
    (most : Int) (K : Nat) (hq : q.length ≤ 1000) (hC : C' ≤ 4096) (hK : (shut = true ∧ K = 0) ∨ (shut = false ∧ (K : Int) = min (max most 0) (min (q.length : Int) ((C' : Int) - q'.length)))) :
    Calls Try.prog 53 #[.pointer (some ⟨g, 0, none⟩), .pointer (some ⟨g', 0, none⟩), .int .i64 most] w fun e w' => e = .returned (.int .i64 K) ∧ PortAt w' B g c C (q.drop K) false ∧ PortAt w' B' g' c' C' (q' ++ q.take K) shut ∧ Fr (fun k => k = c ∨ k = c') w w' := by
  have hle' := hp'.le
  have hlen := len_chan w B g c C q false hp
  have c0 : w.cell? ⟨g, 0, none⟩ = some (.chan (some c)) := by rw [cell_of_row w g 0 _ _ _ hp.blk]; rfl
  obtain ⟨L, hL1, hL2, hLm⟩ : ∃ L : Int, (most ≤ q.length → L = most) ∧ ((q.length : Int) < most → L = q.length) ∧ L ≤ q.length := by
    by_cases h1 : most ≤ q.length
    · exact ⟨most, fun _ => rfl, fun h2 => by omega, h1⟩
    · exact ⟨q.length, fun h2 => by omega, fun _ => rfl, Int.le_refl _⟩
  have hKL : (K : Int) ≤ max L 0 ∧ K ≤ q.length := by
    rcases hK with ⟨_, hK⟩ | ⟨_, hK⟩
    · omega
    · by_cases h1 : most ≤ q.length
      · rw [hL1 h1]; omega
      · rw [hL2 (by omega)]; omega
  obtain ⟨hKL, hKq⟩ := hKL
  -- what stops it
  have hstop : (K : Int) < L → shut = true ∨ C' ≤ q'.length + K := by
    intro hlt
    rcases hK with ⟨hs, hK⟩ | ⟨_, hK⟩
    · exact .inl hs
    · by_cases h1 : most ≤ q.length
      · rw [hL1 h1] at hlt; exact .inr (by omega)
      · rw [hL2 (by omega)] at hlt; exact .inr (by omega)
  have hgo : ∀ j : Nat, j < K → shut = false ∧ q'.length + j < C' := by
    intro j hj
    rcases hK with ⟨hs, hK⟩ | ⟨hs, hK⟩
    · omega
    · exact ⟨hs, by omega⟩
  have HP := Lib.hid hp
  have HP' := Lib.hid hp'
  have HSTOP := Lib.hid hstop
  have HGO := Lib.hid hgo
  have HL1 := Lib.hid hL1
  have HL2 := Lib.hid hL2
  clear hp hp' hK hstop hgo hL1 hL2
  go_enter Try.func53, Try.ntmps53
  go_upto_region 4 with fail
  go_cut [8] (fun l wx => l = .int .i64 L ∧ wx = w)
  case first =>
    by_cases h1 : most ≤ q.length
    · have hl := HL1.out h1
      subst hl
      go_wp2_with fail
      go_meet
      case rel => exact ⟨rfl, rfl⟩
    · have hl := HL2.out (by omega)
      subst hl
      go_wp2_with fail
      go_meet
      case rel => exact ⟨rfl, rfl⟩
  case rest =>
    obtain ⟨rfl, hwc⟩ := hcut
    rw [hwc]
    clear hwc hlen c0
    go_wp2_with fail
    go_loopw [7] (fun i wr => ∃ j : Nat, j ≤ K ∧ i = .int .i64 (j : Int) ∧ PortAt wr B g c C (q.drop j) false ∧ PortAt wr B' g' c' C' (q' ++ q.take j) shut ∧ Fr (fun k => k = c ∨ k = c') w wr) (fun i _ => K - (intOf i).toNat)
    case atStart => exact ⟨0, by omega, rfl, by simpa using HP.out, by simpa using HP'.out, Fr.refl _ _⟩
    case round =>
      obtain ⟨j, hj, rfl, hp, hp', hf⟩ := hrel
      have HPj := Lib.hid hp
      have HPj' := Lib.hid hp'
      have HF := Lib.hid hf
      have ht : (q' ++ q.take j).length = q'.length + j := by simp; omega
      have HRM := Lib.hid (proom_any wr B' g' c' C' _ shut hp')
      have c1 : wr.cell? ⟨g', 1, none⟩ = some (.bool shut) := by rw [cell_of_row wr g' 1 _ _ _ hp'.blk]; rfl
      have HT := Lib.hid ht
      clear hp hp' hf ht
      by_cases hjK : j < K
      · obtain ⟨rfl, hr⟩ := HGO.out j hjK
        have hjL : (j : Int) < L := by omega
        have hrm := HRM.out
        rw [HT.out, decide_eq_true hr] at hrm
        have HRM2 := Lib.hid hrm
        obtain ⟨x, hx⟩ : ∃ x, q[j]? = some x := ⟨_, List.getElem?_eq_getElem (by omega)⟩
        have hd : q.drop j = x :: q.drop (j + 1) := by
          have hlt : j < q.length := by omega
          rw [List.drop_eq_getElem_cons hlt]
          congr 1
          rw [List.getElem?_eq_getElem hlt] at hx
          exact Option.some.inj hx
        have htk : q' ++ q.take (j + 1) = (q' ++ q.take j) ++ [x] := by rw [List.take_add_one, hx]; simp
        have HD := Lib.hid hd
        have HTK := Lib.hid htk
        clear hrm hx hd htk
        go_wp2_with fail
        refine HRM2.out.mono ?_; rintro e w2 ⟨rfl, m, rfl⟩
        have HA := HPj.out.drewN m
        rw [HD.out] at HA
        have HPO := Lib.hid (ppoll_some _ _ _ _ _ _ _ _ HA)
        clear HA
        go_wp2_with fail
        refine HPO.out.mono ?_; rintro e w3 ⟨rfl, p3, f3⟩
        have HP3 := Lib.hid p3
        have p3' := (HPj'.out.drewN m).fr f3 (fun e => hcg e.symm) (fun e => hcc e.symm)
        have HOF := Lib.hid (poffer_room _ _ _ _ _ _ p3' x (by rw [HT.out]; exact hr))
        have HF3 := Lib.hid f3
        clear p3 f3 p3'
        go_wp2_with fail
        refine HOF.out.mono ?_; rintro e w4 ⟨rfl, p4, f4⟩
        have P4 := Lib.hid p4
        have F4 := Lib.hid f4
        clear p4 f4
        go_wp2_with fail
        go_roundw
        case rel =>
          refine ⟨j + 1, by omega, by go_num, HP3.out.fr F4.out (fun e => hgc e) (fun e => hcc e), by rw [HTK.out]; exact P4.out, ?_⟩
          exact ((HF.out.drewN m).trans (F' := fun k => k = c) HF3.out (fun i _ e => .inl e)).trans (F' := fun k => k = c') F4.out (fun i _ e => .inr e)
        case measure => simp [intOf]; omega
      · obtain rfl : j = K := by omega
        by_cases hjL : (j : Int) < L
        · have hfalse : (!shut && decide ((q' ++ q.take j).length < C')) = false := by
            rcases HSTOP.out hjL with h1 | h1
            · rw [h1]; rfl
            · rw [HT.out, decide_eq_false (by omega)]; simp
          have hrm := HRM.out
          rw [hfalse] at hrm
          have HRM2 := Lib.hid hrm
          clear hrm hfalse
          go_wp2_with fail
          refine HRM2.out.mono ?_; rintro e w2 ⟨rfl, m, rfl⟩
          have hpo := ptr_other _ _ _ _ _ _ _ (HPj.out.drewN m) _ _ _ _ _ _ (HPj'.out.drewN m) hgg
          go_wp2_with fail
          go_ret
          exact ⟨rfl, HPj.out.drewN m, HPj'.out.drewN m, HF.out.drewN m⟩
        · go_wp2_with fail
          go_ret
          exact ⟨rfl, HPj.out, HPj'.out, HF.out⟩

set_option maxHeartbeats 1600000 in
/-- Round and round one port. -/
theorem pump_same (w : World) (B g c C : Nat) (q : List Int) (hp : PortAt w B g c C q false) (most : Int) (K : Nat) (hq : q.length ≤ 1000) (hC : C ≤ 4096) (hK : (K : Int) = min (max most 0) (q.length : Int)) :
    Calls Try.prog 53 #[.pointer (some ⟨g, 0, none⟩), .pointer (some ⟨g, 0, none⟩), .int .i64 most] w fun e w' => e = .returned (.int .i64 K) ∧ (∃ q', q'.length = q.length ∧ PortAt w' B g c C q' false) ∧ Fr (fun k => k = c) w w' := by
  have hle := hp.le
  have hlen := len_chan w B g c C q false hp
  have c0 : w.cell? ⟨g, 0, none⟩ = some (.chan (some c)) := by rw [cell_of_row w g 0 _ _ _ hp.blk]; rfl
  obtain ⟨L, hL1, hL2, hLm⟩ : ∃ L : Int, (most ≤ q.length → L = most) ∧ ((q.length : Int) < most → L = q.length) ∧ L ≤ q.length := by
    by_cases h1 : most ≤ q.length
    · exact ⟨most, fun _ => rfl, fun h2 => by omega, h1⟩
    · exact ⟨q.length, fun h2 => by omega, fun _ => rfl, Int.le_refl _⟩
  have hKL : (K : Int) ≤ max L 0 ∧ L ≤ K ∧ K ≤ q.length := by
    by_cases h1 : most ≤ q.length
    · rw [hL1 h1]; omega
    · rw [hL2 (by omega)]; omega
  obtain ⟨hKL, hLK, hKq⟩ := hKL
  have HP := Lib.hid hp
  have HL1 := Lib.hid hL1
  have HL2 := Lib.hid hL2
  clear hp hK hL1 hL2
  go_enter Try.func53, Try.ntmps53
  go_upto_region 4 with fail
  go_cut [8] (fun l wx => l = .int .i64 L ∧ wx = w)
  case first =>
    by_cases h1 : most ≤ q.length
    · have hl := HL1.out h1
      subst hl
      go_wp2_with fail
      go_meet
      case rel => exact ⟨rfl, rfl⟩
    · have hl := HL2.out (by omega)
      subst hl
      go_wp2_with fail
      go_meet
      case rel => exact ⟨rfl, rfl⟩
  case rest =>
    obtain ⟨rfl, hwc⟩ := hcut
    rw [hwc]
    clear hwc hlen c0
    go_wp2_with fail
    go_loopw [7] (fun i wr => ∃ (j : Nat) (qj : List Int), j ≤ K ∧ i = .int .i64 (j : Int) ∧ qj.length = q.length ∧ PortAt wr B g c C qj false ∧ Fr (fun k => k = c) w wr) (fun i _ => K - (intOf i).toNat)
    case atStart => exact ⟨0, q, by omega, rfl, rfl, HP.out, Fr.refl _ _⟩
    case round =>
      obtain ⟨j, qj, hj, rfl, hql, hp, hf⟩ := hrel
      have HPj := Lib.hid hp
      have HF := Lib.hid hf
      have HQL := Lib.hid hql
      by_cases hjK : j < K
      · have hjL : (j : Int) < L := by omega
        cases qj with
        | nil => simp at hql; omega
        | cons x r =>
          have hrl : r.length < C := by simp at hql; omega
          clear hql hp hf
          have hrm := proom_any wr B g c C _ false HPj.out
          rw [Bool.not_false, Bool.true_and] at hrm
          obtain ⟨b, hb⟩ : ∃ b, decide ((x :: r).length < C) = b := ⟨_, rfl⟩
          rw [hb] at hrm
          have HRM := Lib.hid hrm
          clear hrm hb
          cases b
          all_goals
            go_wp2_with fail
            refine HRM.out.mono ?_; rintro e w2 ⟨rfl, m, rfl⟩
            have HPm := Lib.hid (HPj.out.drewN m)
            have hpo := ptr_same (wr.drewN m) g
            have c1 : (wr.drewN m).cell? ⟨g, 1, none⟩ = some (.bool false) := by rw [cell_of_row (wr.drewN m) g 1 _ _ _ HPm.out.blk]; rfl
            have c1' : wr.cell? ⟨g, 1, none⟩ = some (.bool false) := c1
            have HPO := Lib.hid (ppoll_some _ _ _ _ _ _ _ _ HPm.out)
            go_wp2_with fail
            refine HPO.out.mono ?_; rintro e w3 ⟨rfl, p3, f3⟩
            have HOF := Lib.hid (poffer_room _ _ _ _ _ _ p3 x hrl)
            have HF3 := Lib.hid f3
            clear p3 f3
            go_wp2_with fail
            refine HOF.out.mono ?_; rintro e w4 ⟨rfl, p4, f4⟩
            have P4 := Lib.hid p4
            have F4 := Lib.hid f4
            clear p4 f4
            go_wp2_with fail
            go_roundw
            case rel => exact ⟨j + 1, r ++ [x], by omega, by go_num, by rw [← HQL.out]; simp, P4.out, ((HF.out.drewN m).trans HF3.out (fun _ _ e => e)).trans F4.out (fun _ _ e => e)⟩
            case measure => simp [intOf]; omega
      · obtain rfl : j = K := by omega
        have hjL : ¬ (j : Int) < L := by omega
        clear hql hp hf
        go_wp2_with fail
        go_ret
        exact ⟨rfl, ⟨qj, HQL.out, HPj.out⟩, HF.out⟩

theorem ring_any (w : World) (n m most : Int) (K : Int) (hm : 1 ≤ m) (hn : 0 ≤ n) (hK : (most < 0 ∧ K = 0) ∨ (0 ≤ most ∧ most ≤ n ∧ K = most) ∨ (0 ≤ most ∧ n < most ∧ K = n)) :
    Calls Try.prog 54 #[.int .i64 n, .int .i64 m, .int .i64 most] w fun e w' => e = .returned (.int .i64 K) ∧ w = w' := by
  rcases hK with ⟨h1, rfl⟩ | ⟨h1, h2, rfl⟩ | ⟨h1, h2, rfl⟩
  all_goals
    go_enter Try.func54, Try.ntmps54
    go_wp2_with fail
    go_ret
    exact ⟨rfl, rfl⟩
end Go.Proofs.Ytjgndjcpdedkiaa
