/- The reference's directives with names, the day with a blank, and the zone: their calls. -/
import Derived.Test.YtpiclilonkaffaaDoorStampR
namespace Go.Proofs.YtpiclilonkaffaaDoor
open Go.RowKit

theorem index_arr {P : Program} {T e : TypeId} {n : Nat} (hT : P.underlying T = some (.array n e)) (ha : ∀ w, (isAgg e).run P w = .ok false w) (hz : ∀ w, (sizeOf e).run P w = .ok 1 w) (cs : Array Value) (i : Nat) (v : Value) (hi : i < n) (hv : cs[i]? = some v) (κ : IntKind) (W : World) :
    (Instr.index T (.agg cs) (.int κ (i : Int))).run P W = .ok v W := by
  have h1 : (0 : Int) ≤ i ∧ (i : Int) < n := by omega
  have h2 : (i : Int).toNat = i := by omega
  simp only [Instr.index, asIntOf, run_underlying hT, Sem.run_bind, Sem.run_pure, Result.andThen_ok, if_pos h1, h2, hz, part, ha, Nat.mul_one, hv]
  rfl
theorem month_index (m : Nat) (h1 : 1 ≤ m) (h2 : m ≤ 12) (W : World) :
    (Instr.index 119 (.agg #[.string ⟨#[]⟩, .string ⟨#[74, 97, 110]⟩, .string ⟨#[70, 101, 98]⟩, .string ⟨#[77, 97, 114]⟩, .string ⟨#[65, 112, 114]⟩, .string ⟨#[77, 97, 121]⟩, .string ⟨#[74, 117, 110]⟩, .string ⟨#[74, 117, 108]⟩, .string ⟨#[65, 117, 103]⟩, .string ⟨#[83, 101, 112]⟩, .string ⟨#[79, 99, 116]⟩, .string ⟨#[78, 111, 118]⟩, .string ⟨#[68, 101, 99]⟩]) (.int .i64 (m : Int))).run Tryd.prog W = .ok (.string ⟨((months.drop (3 * (m - 1))).take 3).toArray⟩) W := by
  refine index_arr Tryd.underlying119 Tryd.isAgg9 Tryd.sizeOf9 _ m _ (by omega) ?_ .i64 W
  obtain rfl | rfl | rfl | rfl | rfl | rfl | rfl | rfl | rfl | rfl | rfl | rfl : m = 1 ∨ m = 2 ∨ m = 3 ∨ m = 4 ∨ m = 5 ∨ m = 6 ∨ m = 7 ∨ m = 8 ∨ m = 9 ∨ m = 10 ∨ m = 11 ∨ m = 12 := by omega
  all_goals rfl
theorem weekday_index (m : Nat) (h2 : m ≤ 6) (W : World) :
    (Instr.index 120 (.agg #[.string ⟨#[83, 117, 110]⟩, .string ⟨#[77, 111, 110]⟩, .string ⟨#[84, 117, 101]⟩, .string ⟨#[87, 101, 100]⟩, .string ⟨#[84, 104, 117]⟩, .string ⟨#[70, 114, 105]⟩, .string ⟨#[83, 97, 116]⟩]) (.int .i64 (m : Int))).run Tryd.prog W = .ok (.string ⟨((weekdays.drop (3 * m)).take 3).toArray⟩) W := by
  refine index_arr Tryd.underlying120 Tryd.isAgg9 Tryd.sizeOf9 _ m _ (by omega) ?_ .i64 W
  obtain rfl | rfl | rfl | rfl | rfl | rfl | rfl : m = 0 ∨ m = 1 ∨ m = 2 ∨ m = 3 ∨ m = 4 ∨ m = 5 ∨ m = 6 := by omega
  all_goals rfl

set_option maxRecDepth 200000 in
set_option maxHeartbeats 4000000 in
theorem ROne_98 (t o : Int) (w : World) (h1 : -9223372036854775808 ≤ t) (h2 : t ≤ 9223372036854775807) :
    Calls Tryd.prog 39 #[.int .u8 98, .int .i64 t, .int .i64 o] w fun e w' => e = .returned (resD (dirL t o 98)) ∧ Below w.heap.size w w' := by
  obtain ⟨a1, a2, a3, a4, a5, a6, a7, a8, a9, a10, a11, a12, a13, a14, a15, a16⟩ := dOf_bounds t o h1 h2
  have HO := ROf_calls t o w h1 h2
  rw [show dirL t o 98 = some ((months.drop (3 * ((dOf t o).month.toNat - 1))).take 3) from rfl]
  generalize dOf t o = d at *
  obtain ⟨y, mo, da, ho, mi, se, wd, yd⟩ := d
  simp only [Dt.val] at *
  obtain ⟨m, rfl⟩ := Int.eq_ofNat_of_zero_le (show (0 : Int) ≤ mo by omega)
  rw [Int.toNat_natCast]
  have hI := fun W => month_index m (by omega) (by omega) W
  generalize (months.drop (3 * (m - 1))).take 3 = r at *
  go_enter Tryd.func39, Tryd.ntmps39
  go_wp2_with fail
  refine HO.mono ?_
  rintro e w1 ⟨rfl, hb⟩
  have hbA : ∀ ob, Below w.heap.size w (w1.alloc ob) := fun ob => hb.alloc hb.size _
  go_wp2
  go_ret2
  exact ⟨rfl, hbA _⟩
set_option maxRecDepth 200000 in
set_option maxHeartbeats 4000000 in
theorem ROne_97 (t o : Int) (w : World) (h1 : -9223372036854775808 ≤ t) (h2 : t ≤ 9223372036854775807) :
    Calls Tryd.prog 39 #[.int .u8 97, .int .i64 t, .int .i64 o] w fun e w' => e = .returned (resD (dirL t o 97)) ∧ Below w.heap.size w w' := by
  obtain ⟨a1, a2, a3, a4, a5, a6, a7, a8, a9, a10, a11, a12, a13, a14, a15, a16⟩ := dOf_bounds t o h1 h2
  have HO := ROf_calls t o w h1 h2
  rw [show dirL t o 97 = some ((weekdays.drop (3 * (dOf t o).weekday.toNat)).take 3) from rfl]
  generalize dOf t o = d at *
  obtain ⟨y, mo, da, ho, mi, se, wd, yd⟩ := d
  simp only [Dt.val] at *
  obtain ⟨m, rfl⟩ := Int.eq_ofNat_of_zero_le (show (0 : Int) ≤ wd by omega)
  rw [Int.toNat_natCast]
  have hI := fun W => weekday_index m (by omega) W
  generalize (weekdays.drop (3 * m)).take 3 = r at *
  go_enter Tryd.func39, Tryd.ntmps39
  go_wp2_with fail
  refine HO.mono ?_
  rintro e w1 ⟨rfl, hb⟩
  have hbA : ∀ ob, Below w.heap.size w (w1.alloc ob) := fun ob => hb.alloc hb.size _
  go_wp2
  go_ret2
  exact ⟨rfl, hbA _⟩
set_option maxRecDepth 200000 in
set_option maxHeartbeats 4000000 in
theorem ROne_101 (t o : Int) (w : World) (h1 : -9223372036854775808 ≤ t) (h2 : t ≤ 9223372036854775807) :
    Calls Tryd.prog 39 #[.int .u8 101, .int .i64 t, .int .i64 o] w fun e w' => e = .returned (resD (dirL t o 101)) ∧ Below w.heap.size w w' := by
  obtain ⟨a1, a2, a3, a4, a5, a6, a7, a8, a9, a10, a11, a12, a13, a14, a15, a16⟩ := dOf_bounds t o h1 h2
  have HO := ROf_calls t o w h1 h2
  rw [show dirL t o 101 = some (padL (dOf t o).day 2 32) from rfl]
  generalize dOf t o = d at *
  obtain ⟨y, mo, da, ho, mi, se, wd, yd⟩ := d
  simp only [Dt.val] at *
  obtain ⟨m, rfl⟩ := Int.eq_ofNat_of_zero_le (show (0 : Int) ≤ da by omega)
  rw [pad_blank m (by omega)]
  have hm : m < 100 := by omega
  by_cases h10 : m < 10
  · rw [if_pos h10]
    have hT : twoL m = [48, UInt8.ofNat (48 + m)] := by
      have : ∀ i : Fin 10, twoL i.val = [48, UInt8.ofNat (48 + i.val)] := by decide +kernel
      exact this ⟨m, h10⟩
    have H2 := fun w => two_calls m hm w
    rw [hT] at H2
    clear hT
    have hx : (⟨[48, UInt8.ofNat (48 + m)].toArray⟩ : ByteArray).extract 1 2 = ⟨[UInt8.ofNat (48 + m)].toArray⟩ := by
      have : ∀ i : Fin 10, (⟨[48, UInt8.ofNat (48 + i.val)].toArray⟩ : ByteArray).extract 1 2 = ⟨[UInt8.ofNat (48 + i.val)].toArray⟩ := by decide +kernel
      exact this ⟨m, h10⟩
    generalize UInt8.ofNat (48 + m) = c at *
    have HX := Lib.hid hx
    clear hx
    go_enter Tryd.func39, Tryd.ntmps39
    go_wp2_with fail
    refine HO.mono ?_
    rintro e w1 ⟨rfl, hb⟩
    have hbA : ∀ ob, Below w.heap.size w (w1.alloc ob) := fun ob => hb.alloc hb.size _
    go_wp2_with fail
    refine (H2 _).mono ?_
    rintro e w2 ⟨rfl, hb2⟩
    have m2 := (hb2.block w1.heap.size (by simp)).trans (heap_alloc_new _ _)
    have c2 := cellOf m2
    have f2 := frozenOf m2
    clear m2
    go_wp2_with fail
    have e3 : (⟨#[32]⟩ : ByteArray) ++ (⟨#[48, c]⟩ : ByteArray).extract 1 2 = ⟨#[32, c]⟩ := by
      have hx : (⟨#[48, c]⟩ : ByteArray).extract 1 2 = ⟨[c].toArray⟩ := HX.out
      rw [hx]; exact bcat [32] [c]
    rw [e3]
    go_ret2
    exact ⟨rfl, below_seq (hbA _) hb2 (Nat.le_refl _)⟩
  · rw [if_neg h10]
    have H2 := fun w => two_calls m hm w
    generalize twoL m = l at *
    go_enter Tryd.func39, Tryd.ntmps39
    go_wp2_with fail
    refine HO.mono ?_
    rintro e w1 ⟨rfl, hb⟩
    have hbA : ∀ ob, Below w.heap.size w (w1.alloc ob) := fun ob => hb.alloc hb.size _
    go_wp2_with fail
    refine (H2 _).mono ?_
    rintro e w2 ⟨rfl, hb2⟩
    have m2 := (hb2.block w1.heap.size (by simp)).trans (heap_alloc_new _ _)
    have c2 := cellOf m2
    have f2 := frozenOf m2
    clear m2
    go_wp2
    go_ret2
    exact ⟨rfl, below_seq (hbA _) hb2 (Nat.le_refl _)⟩

theorem zone_neg (m : Nat) (h1 : 0 < m) (h2 : m ≤ 86400) (o : Int) (hc : clampOff o = -(m : Int)) : zoneL o = 45 :: (twoL (m / 3600) ++ twoL (m / 60 % 60)) := by
  unfold zoneL
  rw [hc]
  dsimp only
  rw [if_pos (by omega), show -(-(m : Int)) / 3600 = ((m / 3600 : Nat) : Int) by omega, show -(-(m : Int)) / 60 % 60 = ((m / 60 % 60 : Nat) : Int) by omega, pad_two _ (by omega), pad_two _ (by omega)]
theorem zone_pos (m : Nat) (h2 : m ≤ 86400) (o : Int) (hc : clampOff o = (m : Int)) : zoneL o = 43 :: (twoL (m / 3600) ++ twoL (m / 60 % 60)) := by
  unfold zoneL
  rw [hc]
  dsimp only
  rw [if_neg (by omega), show (m : Int) / 3600 = ((m / 3600 : Nat) : Int) by omega, show (m : Int) / 60 % 60 = ((m / 60 % 60 : Nat) : Int) by omega, pad_two _ (by omega), pad_two _ (by omega)]

end Go.Proofs.YtpiclilonkaffaaDoor
