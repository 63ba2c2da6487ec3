/- The reference's date of a time: its calls. -/
import Derived.Deep.Cut
import Derived.Deep.CutRange
import Derived.Test.YtpiclilonkaffaaDoorDateS
namespace Go.Proofs.YtpiclilonkaffaaDoor
open Go.RowKit

theorem cycle_quo (t c s : Int) (h1 : -9223372036854775808 ≤ t) (h2 : t ≤ 9223372036854775807) (hc : t / 12622780800 = c) (hs : t % 12622780800 = s) :
    (t.tdiv 12622780800 = c ∧ t - c * 12622780800 = s ∧ -9223372036854775808 ≤ c * 12622780800 ∧ c * 12622780800 ≤ 9223372036854775807) ∨
    (t.tdiv 12622780800 = c + 1 ∧ s ≠ 0 ∧ t - (c + 1) * 12622780800 = s - 12622780800 ∧ -9223372036854775808 ≤ (c + 1) * 12622780800 ∧ (c + 1) * 12622780800 ≤ 9223372036854775807) := by
  rcases Int.lt_or_le t 0 with h | h
  · obtain ⟨n, rfl⟩ : ∃ n : Nat, t = -(n : Int) := ⟨t.natAbs, by omega⟩
    rw [Int.neg_tdiv, Int.tdiv_eq_ediv_of_nonneg (by omega)]
    omega
  · rw [Int.tdiv_eq_ediv_of_nonneg h]
    omega

theorem wk_eq (D : Int) (h0 : -1 ≤ D) (h1 : D ≤ 1000000) : (wrap64 (D.tmod 7 + 11)).tmod 7 = (D + 4) % 7 := by
  by_cases h : D = -1
  · subst h; decide +kernel
  · have e := Int.tmod_eq_emod_of_nonneg (a := D) (b := 7) (by omega)
    rw [e, wrap64_id (by omega) (by omega), Int.tmod_eq_emod_of_nonneg (by omega)]
    omega

set_option maxRecDepth 100000 in
set_option maxHeartbeats 1600000 in
theorem ROf_calls (t o : Int) (w : World) (h1 : -9223372036854775808 ≤ t) (h2 : t ≤ 9223372036854775807) :
    Calls Tryd.prog 62 #[.int .i64 t, .int .i64 o] w fun e w' => e = .returned (dOf t o).val ∧ Below w.heap.size w w' := by
  obtain ⟨c, s, ht, hs0, hs1⟩ : ∃ c s : Int, t = 12622780800 * c + s ∧ 0 ≤ s ∧ s < 12622780800 := ⟨t / 12622780800, t % 12622780800, by omega, by omega, by omega⟩
  have hqq := cycle_quo t c s h1 h2 (by omega) (by omega)
  have hcl : -86400 ≤ clampOff o ∧ clampOff o ≤ 86400 := by unfold clampOff; omega
  obtain ⟨hcl0, hcl1⟩ := hcl
  have HQ := Lib.hid hqq
  have HT := Lib.hid ht
  clear hqq ht
  go_enter Tryd.func62, Tryd.ntmps62
  go_upto_if 16 with fail
  go_cut [5, 6] from 9 (fun s5 s6 wx => s5 = .int .i64 c ∧ s6 = .int .i64 s ∧ wx = w.alloc (Obj.cells #[Value.int .i64 0, Value.int .i64 0, Value.int .i64 0, Value.int .i64 0, Value.int .i64 0, Value.int .i64 0, Value.int .i64 0, Value.int .i64 0] 114))
  case first =>
    obtain ⟨q1, q2, q3, q4⟩ | ⟨q1, q0, q2, q3, q4⟩ := HQ.out
    all_goals
      go_wp2_with fail
      all_goals
        go_meet
        case rel =>
          have ht := HT.out
          rename_i hlt
          simp only [q1, wrap64_id q3 q4, q2, wrap64_id (x := s) (by omega) (by omega), wrap64_id (x := s - 12622780800) (by omega) (by omega), Int.sub_add_cancel] at hlt ⊢
          first | (exfalso; omega) | exact ⟨trivial, trivial, trivial⟩
  case rest =>
    obtain ⟨rfl, rfl, rfl⟩ := hcut
    go_upto_region 6 with fail
    go_cut [6] from 9 (fun s6 wx => s6 = .int .i64 (s + clampOff o) ∧ wx = w.alloc (Obj.cells #[Value.int .i64 0, Value.int .i64 0, Value.int .i64 0, Value.int .i64 0, Value.int .i64 0, Value.int .i64 0, Value.int .i64 0, Value.int .i64 0] 114))
    case first =>
      obtain ⟨ho, hc⟩ | ⟨ho, hc⟩ | ⟨ho, ho2, hc⟩ : (o < -86400 ∧ clampOff o = -86400) ∨ (86400 < o ∧ clampOff o = 86400) ∨ (-86400 ≤ o ∧ o ≤ 86400 ∧ clampOff o = o) := by unfold clampOff; omega
      all_goals
        have HC := Lib.hid hc; clear hc
        go_wp2_with fail
        go_meet
        case rel =>
          exact ⟨by rw [HC.out], rfl⟩
    case rest =>
      obtain ⟨rfl, rfl⟩ := hcut
      generalize hcle : clampOff o = cl at *
      have HCL := Lib.hid hcle; clear hcle
      go_upto_if 27 with fail
      go_cut [6, 7] from 9 (fun s6 s7 wx => (∃ d r : Int, s6 = .int .i64 r ∧ s7 = .int .i64 d ∧ 0 ≤ r ∧ r < 12622780800 + 86400 ∧ -1 ≤ d ∧ d ≤ 0 ∧ Aside (86400 * d + r = s + cl)) ∧ wx = w.alloc (Obj.cells #[Value.int .i64 0, Value.int .i64 0, Value.int .i64 0, Value.int .i64 0, Value.int .i64 0, Value.int .i64 0, Value.int .i64 0, Value.int .i64 0] 114))
      case first =>
        go_wp2_with fail
        all_goals
          go_meet
          case rel =>
            rename_i hlt
            first
            | exact ⟨⟨-1, s + cl + 86400, by go_num, by go_num, by omega, by omega, by omega, by omega, (by show 86400 * (-1) + (s + cl + 86400) = s + cl; omega)⟩, rfl⟩
            | exact ⟨⟨0, s + cl, by go_num, by go_num, by omega, by omega, by omega, by omega, (by show 86400 * 0 + (s + cl) = s + cl; omega)⟩, rfl⟩
      case rest =>
        obtain ⟨⟨d, r, rfl, rfl, hr0, hr1, hd0, hd1, HD⟩, rfl⟩ := hcut
        go_wp2_with fail
        rw [wk_eq _ (by omega) (by omega)]
        have hc0 : -800000000 ≤ c := by have := HT.out; omega
        have hc1 : c ≤ 800000000 := by have := HT.out; omega
        have hDa : -1 ≤ d + r / 86400 ∧ d + r / 86400 ≤ 146100 := by omega
        have hRa : 0 ≤ r % 86400 ∧ r % 86400 < 86400 := by omega
        have HS : Hid (s + cl = 86400 * (d + r / 86400) + r % 86400) := Lib.hid (by have h : 86400 * d + r = s + cl := HD.out; omega)
        generalize d + r / 86400 = D at *
        generalize r % 86400 = rest at *
        generalize hwk : (D + 4) % 7 = wk
        have HWK := Lib.hid hwk; clear hwk
        obtain ⟨hD0, hD1⟩ := hDa
        obtain ⟨hR0, hR1⟩ := hRa
        go_loopg [7] 1 (fun g v7 wr => ∃ Y x : Int, v7 = .int .i64 x ∧ 1969 ≤ Y ∧ Y ≤ 1970 ∧ -1 ≤ x ∧ x ≤ 146100 ∧ Aside ((x < 0 → g = 1 ∧ Y = 1970) ∧ dby Y + x = D + 719528 ∧
          wr.heap[w.heap.size]? = some (Obj.cells #[Value.int .i64 0, Value.int .i64 0, Value.int .i64 0, Value.int .i64 0, Value.int .i64 0, Value.int .i64 0, Value.int .i64 0, Value.int .i64 0] 114 (0, 0)) ∧
          wr.heap[w.heap.size + 1]? = some (Obj.cells #[.int .i64 Y, .int .i64 1, .int .i64 1, .int .i64 0, .int .i64 0, .int .i64 0, .int .i64 wk, .int .i64 0] 114 (0, 0)) ∧ Below w.heap.size w wr))
        case atStart =>
          refine ⟨1970, D, rfl, by omega, by omega, by omega, by omega, ⟨fun _ => ⟨rfl, rfl⟩, ?_, ?_, ?_, ?_⟩⟩
          · rw [show dby 1970 = 719528 by decide]; omega
          · refine heap_alloc_lt ?_
            exact heap_alloc_new w _
          · exact heap_new_at (by simp)
          · exact ((Below.refl _ _).alloc (Nat.le_refl _) _).alloc (by simp) _
        case round =>
          obtain ⟨Y, x, rfl, hY0, hY1, hx0, hx1, HA⟩ := hrel
          obtain ⟨a1, a2, m0, m1, mb⟩ := HA.out
          have c1 := cellOf m1
          have f1 := frozenOf m1
          by_cases hx : x < 0
          · obtain ⟨rfl, rfl⟩ := a1 hx
            obtain rfl : x = -1 := by omega
            clear a1 a2 m0 m1 mb
            have e69 : lenB 1969 = 365 := by decide +kernel
            go_wp2_with (go_at_call 89; refine (Ryear_calls _ _ (by omega) (by omega)).mono ?_; rintro e w' ⟨rfl, rfl⟩)
            go_roundg 0
            case measure => omega
            case rel =>
              obtain ⟨a1, a2, m0, m1, mb⟩ := HA.out
              refine ⟨1969, 364, by first | rfl | (rw [e69]; rfl), by omega, by omega, by omega, by omega, ⟨fun h => absurd h (by omega), ?_, ?_, ?_, ?_⟩⟩
              · rw [show dby 1970 = 719528 by decide +kernel] at a2
                rw [show dby 1969 = 719163 by decide +kernel]; omega
              · rw [heap_setCell_ne (by omega)]; exact m0
              · exact heap_setCell m1 0 (.int .i64 1969)
              · exact below_setCell mb (by omega) _
          · clear a1 m0 m1 mb
            have A2 := Lib.hid a2; clear a2
            go_wp2_with fail
            clear c1 f1
            go_loopg [7] 500 (fun g v7 wr => ∃ Y x : Int, v7 = .int .i64 x ∧ 1969 ≤ Y ∧ Y ≤ 2400 ∧ 2469 - Y ≤ g ∧ 0 ≤ x ∧ x ≤ 146100 ∧ Aside (dby Y + x = D + 719528 ∧
              wr.heap[w.heap.size]? = some (Obj.cells #[Value.int .i64 0, Value.int .i64 0, Value.int .i64 0, Value.int .i64 0, Value.int .i64 0, Value.int .i64 0, Value.int .i64 0, Value.int .i64 0] 114 (0, 0)) ∧
              wr.heap[w.heap.size + 1]? = some (Obj.cells #[.int .i64 Y, .int .i64 1, .int .i64 1, .int .i64 0, .int .i64 0, .int .i64 0, .int .i64 wk, .int .i64 0] 114 (0, 0)) ∧ Below w.heap.size w wr))
            case atStart =>
              obtain ⟨a1, a2, m0, m1, mb⟩ := HA.out
              exact ⟨Y, x, rfl, by omega, by omega, by omega, by omega, by omega, ⟨a2, m0, m1, mb⟩⟩
            case round =>
              clear HA A2
              obtain ⟨Y2, x2, rfl, hY2, hY3, hg2, hx2, hx3, HA⟩ := hrel
              obtain ⟨a2, m0, m1, mb⟩ := HA.out
              have c1 := cellOf m1
              have f1 := frozenOf m1
              have hle := lenB_le Y2
              obtain ⟨hle0, hle1⟩ := hle
              by_cases hx : lenB Y2 ≤ x2
              · have hY4 : Y2 + 1 ≤ 2400 := by
                  have := dby_succ Y2
                  have h2 : dby 2400 = 876582 := by decide +kernel
                  rcases Int.lt_or_le Y2 2400 with h | h
                  · omega
                  · obtain rfl : Y2 = 2400 := by omega
                    omega
                clear a2 m0 m1 mb
                go_wp2_with (go_at_call 89; refine (Ryear_calls _ _ (by omega) (by omega)).mono ?_; rintro e w' ⟨rfl, rfl⟩)
                go_roundg (gk - 1)
                case measure => omega
                case rel =>
                  obtain ⟨a2, m0, m1, mb⟩ := HA.out
                  refine ⟨Y2 + 1, x2 - lenB Y2, by go_num, by omega, by omega, by omega, by omega, by omega, ⟨?_, ?_, ?_, ?_⟩⟩
                  · rw [dby_succ]; omega
                  · rw [heap_setCell_ne (by omega)]; exact m0
                  · exact heap_setCell m1 0 (.int .i64 (Y2 + 1))
                  · exact below_setCell mb (by omega) _
              · clear a2 m0 m1 mb
                go_wp2_with (go_at_call 89; refine (Ryear_calls _ _ (by omega) (by omega)).mono ?_; rintro e w' ⟨rfl, rfl⟩)
                clear c1 f1
                have hx2' : x2 < lenB Y2 := by omega
                have HX := Lib.hid hx2'
                have hx4 : x2 ≤ 400 := by omega
                clear hx hx2'
                go_loopg [7] 12 (fun g v7 wr => ∃ (j : Nat) (x : Int), v7 = .int .i64 x ∧ g + j = 13 ∧ 1 ≤ j ∧ j ≤ 12 ∧ 0 ≤ x ∧ x ≤ 400 ∧ Aside (findM Y2 g (x + 1) j = findM Y2 12 (x2 + 1) 1 ∧ (x + 1) + cumD Y2 j = x2 + 1 ∧
                  wr.heap[w.heap.size]? = some (Obj.cells #[Value.int .i64 0, Value.int .i64 0, Value.int .i64 0, Value.int .i64 0, Value.int .i64 0, Value.int .i64 0, Value.int .i64 0, Value.int .i64 0] 114 (0, 0)) ∧
                  wr.heap[w.heap.size + 1]? = some (Obj.cells #[.int .i64 Y2, .int .i64 j, .int .i64 1, .int .i64 0, .int .i64 0, .int .i64 0, .int .i64 wk, .int .i64 (x2 + 1)] 114 (0, 0)) ∧ Below w.heap.size w wr))
                case atStart =>
                  obtain ⟨a2, m0, m1, mb⟩ := HA.out
                  refine ⟨1, x2, rfl, rfl, by omega, by omega, by omega, by omega, ⟨rfl, by simp [cumD], ?_, ?_, ?_⟩⟩
                  · rw [heap_setCell_ne (by omega)]; exact m0
                  · exact heap_setCell m1 7 (.int .i64 (x2 + 1))
                  · exact below_setCell mb (by omega) _
                case round =>
                  have HA2 := HA
                  clear HA
                  obtain ⟨j, x, rfl, hj0, hj1, hj2, hx0', hx1', HA⟩ := hrel
                  obtain ⟨a1, a2, m0, m1, mb⟩ := HA.out
                  have c1 := cellOf m1
                  have f1 := frozenOf m1
                  obtain ⟨hdd0, hdd1⟩ := leapB_days Y2 j
                  have HJ0 := Lib.hid hj0; clear hj0
                  clear a1 a2 m0 m1 mb
                  go_wp2_with fail
                  refine (RDays_calls Y2 j _ (by omega) (by omega) (by omega) (by omega)).mono ?_
                  rintro e w1 ⟨rfl, hb1⟩
                  have m1 := HA.out.2.2.2.1
                  have m1' := (hb1.block _ (ltOf m1)).trans m1
                  clear c1 f1
                  have c1 := cellOf m1'
                  have f1 := frozenOf m1'
                  clear m1 m1'
                  by_cases hgt : dDays Y2 j ≤ x
                  · have h12 : j + 1 ≤ 12 := by
                      have h12 : j ≠ 12 := by
                        rintro rfl
                        have := cumD_12 Y2
                        have e : dDays Y2 ((12 : Nat) : Int) = 31 := by simp [dDays]
                        have := HA.out.2.1
                        have h5 := HX.out
                        unfold lenB at h5
                        omega
                      omega
                    go_wp2_with fail
                    refine (RDays_calls Y2 j _ (by omega) (by omega) (by omega) (by omega)).mono ?_
                    rintro e w2 ⟨rfl, hb2⟩
                    have m1 := HA.out.2.2.2.1
                    have m1' := (hb2.block _ (Nat.lt_of_lt_of_le (ltOf m1) hb1.size)).trans ((hb1.block _ (ltOf m1)).trans m1)
                    clear c1 f1
                    have c1 := cellOf m1'
                    have f1 := frozenOf m1'
                    have M1 := Lib.hid m1'
                    clear m1 m1'
                    go_wp2_with fail
                    have hj0 := HJ0.out
                    go_roundg (gk - 1)
                    case measure => omega
                    case rel =>
                      obtain ⟨a1, a2, m0, m1, mb⟩ := HA.out
                      refine ⟨j + 1, x - dDays Y2 j, by go_num, by omega, by omega, by omega, by omega, by omega, ⟨?_, ?_, ?_, ?_, ?_⟩⟩
                      · have hg : gk = (gk - 1) + 1 := by omega
                        rw [hg, findM, if_pos (by omega)] at a1
                        rw [show x - dDays Y2 j + 1 = x + 1 - dDays Y2 j by omega]
                        exact_mod_cast a1
                      · have hc : cumD Y2 (j + 1) = cumD Y2 j + dDays Y2 j := by simp [cumD]; omega
                        rw [hc]; omega
                      · rw [heap_setCell_ne (by omega), hb2.block _ (Nat.lt_of_lt_of_le (ltOf m0) hb1.size), hb1.block _ (ltOf m0)]; exact m0
                      · have e1 := heap_setCell M1.out 1 (.int .i64 ((j : Int) + 1))
                        exact_mod_cast e1
                      · exact below_setCell (below_seq (below_seq mb hb1 (Nat.le_refl _)) hb2 (Nat.le_refl _)) (by omega) _
                  · have HR : Hid (findM Y2 12 (x2 + 1) 1 = (x + 1, (j : Int))) := Lib.hid (by
                      have hg : gk = (gk - 1) + 1 := by have := HJ0.out; omega
                      have := HA.out.1
                      rw [hg, findM, if_neg (by omega)] at this
                      exact this.symm)
                    have m0 := HA.out.2.2.1
                    have m0' := (hb1.block _ (ltOf m0)).trans m0
                    have c0 := cellOf m0'
                    have f0 := frozenOf m0'
                    clear m0 m0'
                    go_wp2
                    have hD : dOf t o = ⟨Y2 + 400 * c, j, x + 1, rest / 3600, rest / 60 % 60, rest % 60, wk, x2 + 1⟩ := by
                      have e := ref_eq t o c s D rest Y2 x2 wk HT.out (by rw [HCL.out]; exact HS.out) (by omega) (by omega) HA2.out.1 (by omega) HX.out HWK.out.symm
                      rw [HR.out] at e
                      exact e
                    have mb := below_seq HA.out.2.2.2.2 hb1 (Nat.le_refl _)
                    rw [hD]
                    refine bodyPost_ret (v := .agg #[.int .i64 (Y2 + 400 * c), .int .i64 j, .int .i64 (x + 1), .int .i64 (rest / 3600), .int .i64 (rest / 60 % 60), .int .i64 (rest % 60), .int .i64 wk, .int .i64 (x2 + 1)]) (by simp [results, Tryd.results62, go_sem, c0]) rfl ⟨rfl, ?_⟩
                    repeat (first | (with_reducible exact mb) | (with_reducible refine below_dn ?_ _) | (with_reducible refine below_setCell ?_ (by omega) _))
end Go.Proofs.YtpiclilonkaffaaDoor
