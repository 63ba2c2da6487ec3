/- The date functions: their calls. -/
import Derived.Test.YtpiclilonkaffaaDoorBase
import Derived.Test.YtpiclilonkaffaaDoorDateP
namespace Go.Proofs.YtpiclilonkaffaaDoor
open Go.RowKit

theorem ret_int {k : IntKind} {a b : Int} (h : a = b) : Ending.returned (.int k a) = .returned (.int k b) := by rw [h]
theorem ret_int2 {k : IntKind} {a b c d : Int} (h : a = b) (h' : c = d) : Ending.returned (.tuple #[.int k a, .int k c]) = .returned (.tuple #[.int k b, .int k d]) := by rw [h, h']

theorem tdiv_floor (n d : Int) (hd : 0 < d) : (n.tmod d < 0 → n / d = n.tdiv d - 1 ∧ n % d = n.tmod d + d) ∧ (0 ≤ n.tmod d → n / d = n.tdiv d ∧ n % d = n.tmod d) := by
  have e := Int.mul_tdiv_add_tmod n d
  have l1 := Int.tmod_lt_of_pos n hd
  have l2 := Int.lt_tmod_of_pos n hd
  refine ⟨fun h => ?_, fun h => ?_⟩
  · refine (Int.ediv_emod_unique hd).2 ⟨?_, by omega, by omega⟩
    rw [Int.mul_sub]; omega
  · exact (Int.ediv_emod_unique hd).2 ⟨by omega, h, l1⟩

theorem wrap64_id {x : Int} (h1 : -9223372036854775808 ≤ x) (h2 : x ≤ 9223372036854775807) : wrap64 x = x := by unfold wrap64; omega

theorem tdiv_small (n d : Int) (hd : 7 ≤ d) (h1 : -9223372036854775808 ≤ n) (h2 : n ≤ 9223372036854775807) :
    -9223372036854775807 ≤ n.tdiv d - 1 ∧ n.tdiv d - 1 ≤ 9223372036854775807 := by
  have e := Int.mul_tdiv_add_tmod n d
  have l1 := Int.tmod_lt_of_pos n (b := d) (by omega)
  have l2 := Int.lt_tmod_of_pos n (b := d) (by omega)
  have hq : (n.tdiv d).natAbs ≤ n.natAbs / 7 := by
    rw [Int.natAbs_tdiv]
    exact Nat.div_le_div_left (by omega) (by omega)
  omega

set_option maxHeartbeats 400000 in
theorem floor_calls (n d : Int) (w : World) (h1 : -9223372036854775808 ≤ n) (h2 : n ≤ 9223372036854775807) (hd : 7 ≤ d) (hd2 : d ≤ 200000) :
    Calls Tryd.prog 83 #[.int .i64 n, .int .i64 d] w fun e w' => e = .returned (.tuple #[.int .i64 (n / d), .int .i64 (n % d)]) ∧ ∃ k, w' = w.drewN k := by
  have ht := tdiv_floor n d (by omega)
  have hs := tdiv_small n d hd h1 h2
  have l1 := Int.tmod_lt_of_pos n (b := d) (by omega)
  have l2 := Int.lt_tmod_of_pos n (b := d) (by omega)
  have HT := Lib.hid ht; clear ht
  have HS := Lib.hid hs; clear hs
  have HL1 := Lib.hid l1; clear l1
  have HL2 := Lib.hid l2; clear l2
  go_enter Tryd.func83, Tryd.ntmps83
  go_wp2
  go_quiet (fail)
  go_wp2
  · have hlt : n.tmod d < 0 := by assumption
    have g1 := HS.out; have g2 := HL1.out; have g3 := HL2.out
    go_ret2
    refine ⟨ret_int2 ?_ ?_, _, rfl⟩
    · rw [((HT.out).1 hlt).1]; exact wrap64_id (by omega) (by omega)
    · rw [((HT.out).1 hlt).2]; exact wrap64_id (by omega) (by omega)
  · have hlt : 0 ≤ n.tmod d := by assumption
    go_ret2
    exact ⟨ret_int2 ((HT.out).2 hlt).1.symm ((HT.out).2 hlt).2.symm, _, rfl⟩

set_option maxHeartbeats 400000 in
theorem Leap_calls (y : Int) (w : World) (h0 : 0 ≤ y) (h1 : y ≤ 1000000) :
    Calls Tryd.prog 99 #[.int .i64 y] w fun e w' => e = .returned (.bool (leapB y)) ∧ w = w' := by
  unfold leapB
  by_cases h4 : y % 4 = 0
  · by_cases h100 : y % 100 = 0
    · by_cases h400 : y % 400 = 0
      all_goals
        go_enter Tryd.func99, Tryd.ntmps99
        go_wp2
        go_ret
        simp [*]
    · go_enter Tryd.func99, Tryd.ntmps99
      go_wp2
      go_ret
      simp [*]
  · go_enter Tryd.func99, Tryd.ntmps99
    go_wp2
    go_ret
    simp [*]

set_option maxHeartbeats 1600000 in
theorem Days_calls (y m : Int) (w : World) (h0 : 0 ≤ y) (h1 : y ≤ 1000000) (hm : 1 ≤ m) (hm2 : m ≤ 13) :
    Calls Tryd.prog 85 #[.int .i64 y, .int .i64 m] w fun e w' => e = .returned (.int .i64 (dDays y m)) ∧ w = w' := by
  obtain rfl | rfl | rfl | rfl | rfl | rfl | rfl | rfl | rfl | rfl | rfl | rfl | rfl : m = 1 ∨ m = 2 ∨ m = 3 ∨ m = 4 ∨ m = 5 ∨ m = 6 ∨ m = 7 ∨ m = 8 ∨ m = 9 ∨ m = 10 ∨ m = 11 ∨ m = 12 ∨ m = 13 := by omega
  case inr.inl =>
    cases hb : leapB y
    all_goals
      have HB := Lib.hid hb; clear hb
      go_enter Tryd.func85, Tryd.ntmps85
      go_wp2_with (go_at_call 99; refine (Leap_calls _ _ h0 h1).mono ?_; rw [HB.out]; rintro e w' ⟨rfl, rfl⟩)
      go_ret
      exact ⟨by simp [dDays, HB.out], rfl⟩
  all_goals
    go_enter Tryd.func85, Tryd.ntmps85
    go_wp2
    go_ret
    exact ⟨by simp [dDays], rfl⟩

set_option maxHeartbeats 400000 in
theorem before_calls (y : Int) (w : World) (h0 : 0 ≤ y) (h1 : y ≤ 1000000) :
    Calls Tryd.prog 84 #[.int .i64 y] w fun e w' => e = .returned (.int .i64 (dBefore y)) ∧ w = w' := by
  by_cases h : y = 0
  · subst h
    go_enter Tryd.func84, Tryd.ntmps84
    go_wp2
    go_ret
    simp [dBefore]
  · have hy : 1 ≤ y := by omega
    have hz : (y == 0) = false := by simpa using h
    go_enter Tryd.func84, Tryd.ntmps84
    go_wp2
    go_ret
    exact ⟨ret_int (by rw [dBefore, if_neg h]), rfl⟩

set_option maxHeartbeats 400000 in
theorem split_calls (t o : Int) (w : World) (h1 : -9223372036854775808 ≤ t) (h2 : t ≤ 9223372036854775807) :
    Calls Tryd.prog 82 #[.int .i64 t, .int .i64 o] w fun e w' => e = .returned (.tuple #[.int .i64 ((t + clampOff o) / 86400), .int .i64 ((t + clampOff o) % 86400)]) ∧ ∃ k, w' = w.drewN k := by
  have hl0 : 0 ≤ t % 86400 := by omega
  have hl1 : t % 86400 < 86400 := by omega
  have hd0 : -106751991167301 ≤ t / 86400 := by omega
  have hd1 : t / 86400 ≤ 106751991167301 := by omega
  have fin : ∀ c, clampOff o = c → (t + clampOff o) / 86400 = t / 86400 + (t % 86400 + c) / 86400 ∧ (t + clampOff o) % 86400 = (t % 86400 + c) % 86400 := by intro c hc; rw [hc]; omega
  obtain ⟨ho, hc⟩ | ⟨ho, hc⟩ | ⟨ho, ho2, hc⟩ : (o < -86400 ∧ clampOff o = -86400) ∨ (86400 < o ∧ clampOff o = 86400) ∨ (-86400 ≤ o ∧ o ≤ 86400 ∧ clampOff o = o) := by unfold clampOff; omega
  all_goals
    have HF := Lib.hid (fin _ hc); clear fin hc
    go_enter Tryd.func82, Tryd.ntmps82
    go_wp2_with fail
    refine (floor_calls _ _ _ h1 h2 (by omega) (by omega)).mono ?_
    rintro e w' ⟨rfl, k, rfl⟩
    generalize t / 86400 = q at *
    generalize t % 86400 = l at *
    go_wp2_with (go_at_call 83; refine (floor_calls _ _ _ (by omega) (by omega) (by omega) (by omega)).mono ?_; rintro e w' ⟨rfl, k2, rfl⟩)
    go_ret2
    have hf := HF.out
    exact ⟨ret_int2 (by omega) (by omega), _, rfl⟩

def Dt.val (d : Dt) : Value := .agg #[.int .i64 d.year, .int .i64 d.month, .int .i64 d.day, .int .i64 d.hour, .int .i64 d.minute, .int .i64 d.second, .int .i64 d.weekday, .int .i64 d.yearday]


set_option maxRecDepth 100000 in
set_option maxHeartbeats 1600000 in
theorem Of_calls (t o : Int) (w : World) (h1 : -9223372036854775808 ≤ t) (h2 : t ≤ 9223372036854775807) :
    Calls Tryd.prog 57 #[.int .i64 t, .int .i64 o] w fun e w' => e = .returned (dOf t o).val ∧ Below w.heap.size w w' := by
  have hd0 : -106751991167302 ≤ (t + clampOff o) / 86400 ∧ (t + clampOff o) / 86400 ≤ 106751991167302 := by unfold clampOff; omega
  have hs0 : 0 ≤ (t + clampOff o) % 86400 ∧ (t + clampOff o) % 86400 < 86400 := by omega
  obtain ⟨hd0, hd1⟩ := hd0
  obtain ⟨hs0, hs1⟩ := hs0
  have HS := fun w => split_calls t o w h1 h2
  have HF := fun w => floor_calls ((t + clampOff o) / 86400 + 719528) 146097 w (by omega) (by omega) (by omega) (by omega)
  have HG := fun w => floor_calls ((t + clampOff o) / 86400 + 4) 7 w (by omega) (by omega) (by omega) (by omega)
  have hi0 : 0 ≤ ((t + clampOff o) / 86400 + 719528) % 146097 := by omega
  have hi1 : ((t + clampOff o) / 86400 + 719528) % 146097 < 146097 := by omega
  have hc0 : -800000000 ≤ ((t + clampOff o) / 86400 + 719528) / 146097 ∧ ((t + clampOff o) / 86400 + 719528) / 146097 ≤ 800000000 := by omega
  obtain ⟨hc0, hc1⟩ := hc0
  unfold dOf
  dsimp only
  generalize (t + clampOff o) / 86400 = day at *
  generalize (t + clampOff o) % 86400 = sec at *
  generalize (day + 719528) / 146097 = cyc at *
  generalize (day + 719528) % 146097 = inn at *
  generalize (day + 4) / 7 = wk0 at *
  generalize (day + 4) % 7 = wk at *
  obtain ⟨y0, e0, y1, y2, y3, y4, y5⟩ := year_bounds inn hi0 hi1
  rw [← e0]
  have Y2 := Lib.hid y2; clear y2 e0
  obtain ⟨R, hR⟩ : ∃ R, findY inn y0 = R := ⟨_, rfl⟩
  rw [hR] at y3 y4 y5 ⊢
  have HR := Lib.hid hR; clear hR
  have Y5 := Lib.hid y5; clear y5
  have hb0 := (dBefore_le R (by omega) (by omega))
  obtain ⟨hb0, hb1⟩ := hb0
  have hm : (399 < inn / 365 ∧ y0 = 399) ∨ (¬ 399 < inn / 365 ∧ inn / 365 = y0) := by have := Y2.out; omega
  rcases hm with ⟨hm, hy⟩ | ⟨hm, hy⟩
  all_goals
    have HY := Lib.hid hy; clear hy
    go_enter Tryd.func57, Tryd.ntmps57
    go_wp2_with fail
    refine (HS _).mono ?_
    rintro e w' ⟨rfl, k, rfl⟩
    go_wp2_with fail
    refine (HF _).mono ?_
    rintro e w' ⟨rfl, k2, rfl⟩
    go_wp2_with fail
    go_loop [9] (fun s => ∃ y : Nat, y ≤ y0 ∧ Hid (findY inn y = R) ∧ s = .int .i64 y) (fun s => (intOf s).toNat)
    case atStart => exact ⟨y0, Nat.le_refl _, HR, by first | (rw [HY.out]; done) | (rw [HY.out]; rfl)⟩
    case round =>
      obtain ⟨y, hy, HRy, rfl⟩ := hrel
      by_cases hgt : inn < dBefore y
      · obtain ⟨y, rfl⟩ : ∃ z, y = z + 1 := by
          cases y with
          | zero => simp [dBefore] at hgt; try omega
          | succ z => exact ⟨z, rfl⟩
        have HRz : Hid (findY inn y = R) := Lib.hid (by have := HRy.out; unfold findY at this; rwa [if_pos hgt] at this)
        clear HRy
        have hgt2 : inn < dBefore ((y : Int) + 1) := by exact_mod_cast hgt
        go_wp2_with (go_at_call 84; refine (before_calls _ _ (by omega) (by omega)).mono ?_; rintro e w' ⟨rfl, rfl⟩)
        go_round
        case rel => exact ⟨y, by omega, HRz, by go_num⟩
        case measure => simp [intOf]
      · have HE : Hid (y = R) := Lib.hid (by
          have := HRy.out
          cases y with
          | zero => simpa [findY] using this
          | succ z => unfold findY at this; rwa [if_neg hgt] at this)
        obtain rfl := HE.out
        have hyd := Y5.out
        have hyd0 : 0 ≤ inn - dBefore y := by omega
        have hyd1 : inn - dBefore y ≤ 400 := by split at hyd <;> omega
        clear HE HRy HR hyd
        go_wp2_with (go_at_call 84; refine (before_calls _ _ (by omega) (by omega)).mono ?_; rintro e w' ⟨rfl, rfl⟩)
        have hW0 : ∀ m, ((((w.alloc (Obj.cells #[.int .i64 0, .int .i64 0, .int .i64 0, .int .i64 0, .int .i64 0, .int .i64 0, .int .i64 0, .int .i64 0] 114)).drewN m).alloc
            (Obj.cells #[.int .i64 (cyc * 400 + y), .int .i64 1, .int .i64 (inn - dBefore y + 1), .int .i64 0, .int .i64 0, .int .i64 0, .int .i64 0, .int .i64 (inn - dBefore y + 1)] 114))).heap[w.heap.size]? =
              some (Obj.cells #[.int .i64 0, .int .i64 0, .int .i64 0, .int .i64 0, .int .i64 0, .int .i64 0, .int .i64 0, .int .i64 0] 114 (0, 0)) := fun m => by
          refine heap_alloc_lt ?_
          exact heap_alloc_new w _
        go_loopg [47] 12 (fun g _ wr => ∃ (j : Nat) (d : Int), g + j = 13 ∧ 1 ≤ j ∧ j ≤ 12 ∧ 1 ≤ d ∧ d ≤ 500 ∧ Aside (findM y g d j = findM y 12 (inn - dBefore y + 1) 1 ∧ d + cumD y j = inn - dBefore y + 1) ∧
          Aside (wr.heap[w.heap.size]? = some (Obj.cells #[.int .i64 0, .int .i64 0, .int .i64 0, .int .i64 0, .int .i64 0, .int .i64 0, .int .i64 0, .int .i64 0] 114 (0, 0)) ∧
          wr.heap[w.heap.size + 1]? = some (Obj.cells #[.int .i64 (cyc * 400 + y), .int .i64 j, .int .i64 d, .int .i64 0, .int .i64 0, .int .i64 0, .int .i64 0, .int .i64 (inn - dBefore y + 1)] 114 (0, 0)) ∧ Below w.heap.size w wr))
        case atStart =>
          refine ⟨1, inn - dBefore y + 1, rfl, Nat.le_refl _, by omega, by omega, by omega, ⟨?_, ?_⟩, ⟨hW0 _, ?_, ?_⟩⟩
          · exact rfl
          · simp [cumD]
          · exact heap_new_at (by simp)
          · exact (below_dn ((Below.refl _ _).alloc (Nat.le_refl _) _) _).alloc (by simp) _
        case round =>
          obtain ⟨j, d, hj0, hj1, hj2, hd0, hd1, HA, HW⟩ := hrel
          obtain ⟨m0, m1, mb⟩ := HW.out
          obtain ⟨hdd0, hdd1⟩ := leapB_days y j
          by_cases hgt : dDays y j < d
          · have c1 := cellOf m1
            have f1 := frozenOf m1
            have h12 : j ≠ 12 := by
              rintro rfl
              have := cumD_12 y
              have e : dDays y ((12 : Nat) : Int) = 31 := by simp [dDays]
              have := HA.out.2
              have := Y5.out
              omega
            have hjs : j + 1 ≤ 12 := by omega
            clear m0 m1 mb h12
            have HJ0 := Lib.hid hj0; clear hj0
            go_wp2_with fail
            go_quiet ((go_at_call 85; exact quiet_eq (Days_calls _ _ _ (by omega) (by omega) (by omega) (by omega))))
            go_wp2_with fail
            refine wp_region_tail_draws2 8 (by kernel_rfl) (by kernel_rfl) ?_
            simp only [List.take_succ_cons, List.take_zero, List.drop_succ_cons, List.drop_zero]
            repeat (quiet_step ((go_at_call 85; exact quiet_eq (Days_calls _ _ _ (by omega) (by omega) (by omega) (by omega)))))
            refine wpQuiet_nil ?_
            intro _ hw'
            obtain ⟨nr, rfl⟩ := hw'
            go_wp2
            have hj0 := HJ0.out
            go_roundg (gk - 1)
            case measure => omega
            case rel =>
              obtain ⟨m0, m1, mb⟩ := HW.out
              refine ⟨j + 1, d - dDays y j, by omega, by omega, by omega, by omega, by omega, ⟨?_, ?_⟩, ⟨?_, ?_, ?_⟩⟩
              · have hg : gk = (gk - 1) + 1 := by omega
                have := HA.out.1
                rw [hg, findM, if_pos hgt] at this
                exact_mod_cast this
              · have hc : cumD y (j + 1) = cumD y j + dDays y j := by simp [cumD]; omega
                have := HA.out.2
                rw [hc]; omega
              · rw [heap_setCell_ne (by omega), heap_setCell_ne (by omega)]; exact m0
              · have e1 := heap_setCell (heap_setCell (w := wr.drewN nr) m1 2 (.int .i64 (d - dDays y j))) 1 (.int .i64 ((j : Int) + 1))
                exact_mod_cast e1
              · refine below_setCell (below_setCell (below_dn mb _) ?_ _) ?_ _ <;> omega
          · have c1 := cellOf m1
            have f1 := frozenOf m1
            have c0 := cellOf m0
            have f0 := frozenOf m0
            have HR : Hid (findM y 12 (inn - dBefore y + 1) 1 = (d, (j : Int))) := Lib.hid (by
              have hg : gk = (gk - 1) + 1 := by omega
              have := HA.out.1
              rw [hg, findM, if_neg hgt] at this
              exact this.symm)
            clear m0 m1 mb hj0 HA
            go_wp2_with fail
            go_quiet ((go_at_call 85; exact quiet_eq (Days_calls _ _ _ (by omega) (by omega) (by omega) (by omega))))
            go_wp2_with fail
            refine (HG _).mono ?_
            rintro e w' ⟨rfl, k3, rfl⟩
            go_wp2
            have mb := HW.out.2.2
            rw [HR.out]
            refine bodyPost_ret (v := .agg #[.int .i64 (cyc * 400 + y), .int .i64 j, .int .i64 d, .int .i64 (sec / 3600), .int .i64 (sec / 60 % 60), .int .i64 (sec % 60), .int .i64 wk, .int .i64 (inn - dBefore y + 1)]) (by simp [results, Tryd.results57, go_sem, c0]) rfl ⟨rfl, ?_⟩
            repeat (first | (with_reducible exact mb) | (with_reducible refine below_dn ?_ _) | (with_reducible refine below_setCell ?_ (by omega) _))
end Go.Proofs.YtpiclilonkaffaaDoor
