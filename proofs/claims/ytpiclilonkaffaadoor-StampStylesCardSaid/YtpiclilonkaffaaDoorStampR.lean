/- The reference's directives: their calls. -/
import Derived.Lib.QuietBelow
import Derived.Test.YtpiclilonkaffaaDoorStampD
import Derived.Test.YtpiclilonkaffaaDoorDigW
import Derived.Test.YtpiclilonkaffaaDoorDateT
namespace Go.Proofs.YtpiclilonkaffaaDoor
open Go.RowKit

def twoL (n : Nat) : List UInt8 := [UInt8.ofNat (48 + n / 10), UInt8.ofNat (48 + n % 10)]
theorem pad_two (n : Nat) (h : n < 100) : padL (n : Int) 2 48 = twoL n := by
  have : ∀ i : Fin 100, padL ((i.val : Nat) : Int) 2 48 = twoL i.val := by decide +kernel
  exact this ⟨n, h⟩
theorem pad_blank (n : Nat) (h : n < 100) : padL (n : Int) 2 32 = if n < 10 then [32, UInt8.ofNat (48 + n)] else twoL n := by
  have : ∀ i : Fin 100, padL ((i.val : Nat) : Int) 2 32 = if i.val < 10 then [32, UInt8.ofNat (48 + i.val)] else twoL i.val := by decide +kernel
  exact this ⟨n, h⟩
theorem pad_three (n : Nat) (h : n < 1000) : padL (n : Int) 3 48 = UInt8.ofNat (48 + n / 100) :: twoL (n % 100) := by
  have : ∀ i : Fin 1000, padL ((i.val : Nat) : Int) 3 48 = UInt8.ofNat (48 + i.val / 100) :: twoL (i.val % 100) := by decide +kernel
  exact this ⟨n, h⟩

set_option maxRecDepth 100000 in
theorem two_calls (n : Nat) (h : n < 100) (w : World) :
    Calls Tryd.prog 64 #[.int .i64 n] w fun e w' => e = .returned (.string ⟨(twoL n).toArray⟩) ∧ Below w.heap.size w w' := by
  have hcv : (convert 86 9 (.slice (some ⟨w.heap.size, 0, none⟩) 2 2)).run Tryd.prog (w.alloc (Obj.cells #[Value.int .u8 (48 + (n : Int) / 10 % 10), Value.int .u8 (48 + (n : Int) % 10)] 5)) =
      .ok (.string ⟨(twoL n).toArray⟩) (w.alloc (Obj.cells #[Value.int .u8 (48 + (n : Int) / 10 % 10), Value.int .u8 (48 + (n : Int) % 10)] 5)) := by
    refine run_convert_bytes_back (P := Tryd.prog) _ 86 9 5 ⟨w.heap.size, 0, none⟩ 2 (twoL n) Tryd.underlying86 Tryd.underlying5 Tryd.underlying9 (fun j hj => ?_)
    have hj2 : j < 2 := hj
    rw [Lib.add_plain, cellOf (heap_alloc_new w _)]
    obtain rfl | rfl : j = 0 ∨ j = 1 := by omega
    · have e : (UInt8.ofNat (48 + n / 10)).toNat = 48 + n / 10 := by rw [UInt8.toNat_ofNat']; omega
      show some (Value.int .u8 (48 + (n : Int) / 10 % 10)) = some (Value.int .u8 ((UInt8.ofNat (48 + n / 10)).toNat : Int))
      rw [e]; exact congrArg (fun z => some (Value.int .u8 z)) (by omega)
    · have e : (UInt8.ofNat (48 + n % 10)).toNat = 48 + n % 10 := by rw [UInt8.toNat_ofNat']; omega
      show some (Value.int .u8 (48 + (n : Int) % 10)) = some (Value.int .u8 ((UInt8.ofNat (48 + n % 10)).toNat : Int))
      rw [e]; exact congrArg (fun z => some (Value.int .u8 z)) (by omega)
  go_enter Tryd.func64, Tryd.ntmps64
  go_wp2_with fail
  go_ret
  exact ⟨rfl, (Below.refl _ _).alloc (Nat.le_refl _) _⟩
set_option maxRecDepth 200000 in
set_option maxHeartbeats 4000000 in
theorem ROne_89 (t o : Int) (w : World) (h1 : -9223372036854775808 ≤ t) (h2 : t ≤ 9223372036854775807) :
    Calls Tryd.prog 39 #[.int .u8 89, .int .i64 t, .int .i64 o] w fun e w' => e = .returned (resD (dirL t o 89)) ∧ Below w.heap.size w w' := by
  obtain ⟨a1, a2, a3, a4, a5, a6, a7, a8, a9, a10, a11, a12, a13, a14, a15, a16⟩ := dOf_bounds t o h1 h2
  have HO := ROf_calls t o w h1 h2
  rw [show dirL t o 89 = some (Lib.itoa (dOf t o).year) from rfl]
  generalize dOf t o = d at *
  obtain ⟨y, mo, da, ho, mi, se, wd, yd⟩ := d
  simp only [Dt.val] at *
  go_enter Tryd.func39, Tryd.ntmps39
  go_wp2_with fail
  refine HO.mono ?_
  rintro e w1 ⟨rfl, hb⟩
  have hbA : ∀ ob, Below w.heap.size w (w1.alloc ob) := fun ob => hb.alloc hb.size _
  go_wp2_with fail
  refine (RefDec_calls y (by omega) (by omega) _).mono ?_
  rintro e w2 ⟨rfl, hb2⟩
  go_wp2
  go_ret2
  exact ⟨rfl, below_seq (hbA _) hb2 (Nat.le_refl _)⟩
set_option maxRecDepth 200000 in
set_option maxHeartbeats 4000000 in
theorem ROne_109 (t o : Int) (w : World) (h1 : -9223372036854775808 ≤ t) (h2 : t ≤ 9223372036854775807) :
    Calls Tryd.prog 39 #[.int .u8 109, .int .i64 t, .int .i64 o] w fun e w' => e = .returned (resD (dirL t o 109)) ∧ Below w.heap.size w w' := by
  obtain ⟨a1, a2, a3, a4, a5, a6, a7, a8, a9, a10, a11, a12, a13, a14, a15, a16⟩ := dOf_bounds t o h1 h2
  have HO := ROf_calls t o w h1 h2
  rw [show dirL t o 109 = some (padL (dOf t o).month 2 48) from rfl]
  generalize dOf t o = d at *
  obtain ⟨y, mo, da, ho, mi, se, wd, yd⟩ := d
  simp only [Dt.val] at *
  obtain ⟨m, rfl⟩ := Int.eq_ofNat_of_zero_le (show (0 : Int) ≤ mo by omega)
  rw [pad_two m (by omega)]
  go_enter Tryd.func39, Tryd.ntmps39
  go_wp2_with fail
  refine HO.mono ?_
  rintro e w1 ⟨rfl, hb⟩
  have hbA : ∀ ob, Below w.heap.size w (w1.alloc ob) := fun ob => hb.alloc hb.size _
  go_wp2_with fail
  refine (two_calls m (by omega) _).mono ?_
  rintro e w2 ⟨rfl, hb2⟩
  go_wp2
  go_ret2
  exact ⟨rfl, below_seq (hbA _) hb2 (Nat.le_refl _)⟩
set_option maxRecDepth 200000 in
set_option maxHeartbeats 4000000 in
theorem ROne_100 (t o : Int) (w : World) (h1 : -9223372036854775808 ≤ t) (h2 : t ≤ 9223372036854775807) :
    Calls Tryd.prog 39 #[.int .u8 100, .int .i64 t, .int .i64 o] w fun e w' => e = .returned (resD (dirL t o 100)) ∧ Below w.heap.size w w' := by
  obtain ⟨a1, a2, a3, a4, a5, a6, a7, a8, a9, a10, a11, a12, a13, a14, a15, a16⟩ := dOf_bounds t o h1 h2
  have HO := ROf_calls t o w h1 h2
  rw [show dirL t o 100 = some (padL (dOf t o).day 2 48) from rfl]
  generalize dOf t o = d at *
  obtain ⟨y, mo, da, ho, mi, se, wd, yd⟩ := d
  simp only [Dt.val] at *
  obtain ⟨m, rfl⟩ := Int.eq_ofNat_of_zero_le (show (0 : Int) ≤ da by omega)
  rw [pad_two m (by omega)]
  go_enter Tryd.func39, Tryd.ntmps39
  go_wp2_with fail
  refine HO.mono ?_
  rintro e w1 ⟨rfl, hb⟩
  have hbA : ∀ ob, Below w.heap.size w (w1.alloc ob) := fun ob => hb.alloc hb.size _
  go_wp2_with fail
  refine (two_calls m (by omega) _).mono ?_
  rintro e w2 ⟨rfl, hb2⟩
  go_wp2
  go_ret2
  exact ⟨rfl, below_seq (hbA _) hb2 (Nat.le_refl _)⟩
set_option maxRecDepth 200000 in
set_option maxHeartbeats 4000000 in
theorem ROne_72 (t o : Int) (w : World) (h1 : -9223372036854775808 ≤ t) (h2 : t ≤ 9223372036854775807) :
    Calls Tryd.prog 39 #[.int .u8 72, .int .i64 t, .int .i64 o] w fun e w' => e = .returned (resD (dirL t o 72)) ∧ Below w.heap.size w w' := by
  obtain ⟨a1, a2, a3, a4, a5, a6, a7, a8, a9, a10, a11, a12, a13, a14, a15, a16⟩ := dOf_bounds t o h1 h2
  have HO := ROf_calls t o w h1 h2
  rw [show dirL t o 72 = some (padL (dOf t o).hour 2 48) from rfl]
  generalize dOf t o = d at *
  obtain ⟨y, mo, da, ho, mi, se, wd, yd⟩ := d
  simp only [Dt.val] at *
  obtain ⟨m, rfl⟩ := Int.eq_ofNat_of_zero_le (show (0 : Int) ≤ ho by omega)
  rw [pad_two m (by omega)]
  go_enter Tryd.func39, Tryd.ntmps39
  go_wp2_with fail
  refine HO.mono ?_
  rintro e w1 ⟨rfl, hb⟩
  have hbA : ∀ ob, Below w.heap.size w (w1.alloc ob) := fun ob => hb.alloc hb.size _
  go_wp2_with fail
  refine (two_calls m (by omega) _).mono ?_
  rintro e w2 ⟨rfl, hb2⟩
  go_wp2
  go_ret2
  exact ⟨rfl, below_seq (hbA _) hb2 (Nat.le_refl _)⟩
set_option maxRecDepth 200000 in
set_option maxHeartbeats 4000000 in
theorem ROne_77 (t o : Int) (w : World) (h1 : -9223372036854775808 ≤ t) (h2 : t ≤ 9223372036854775807) :
    Calls Tryd.prog 39 #[.int .u8 77, .int .i64 t, .int .i64 o] w fun e w' => e = .returned (resD (dirL t o 77)) ∧ Below w.heap.size w w' := by
  obtain ⟨a1, a2, a3, a4, a5, a6, a7, a8, a9, a10, a11, a12, a13, a14, a15, a16⟩ := dOf_bounds t o h1 h2
  have HO := ROf_calls t o w h1 h2
  rw [show dirL t o 77 = some (padL (dOf t o).minute 2 48) from rfl]
  generalize dOf t o = d at *
  obtain ⟨y, mo, da, ho, mi, se, wd, yd⟩ := d
  simp only [Dt.val] at *
  obtain ⟨m, rfl⟩ := Int.eq_ofNat_of_zero_le (show (0 : Int) ≤ mi by omega)
  rw [pad_two m (by omega)]
  go_enter Tryd.func39, Tryd.ntmps39
  go_wp2_with fail
  refine HO.mono ?_
  rintro e w1 ⟨rfl, hb⟩
  have hbA : ∀ ob, Below w.heap.size w (w1.alloc ob) := fun ob => hb.alloc hb.size _
  go_wp2_with fail
  refine (two_calls m (by omega) _).mono ?_
  rintro e w2 ⟨rfl, hb2⟩
  go_wp2
  go_ret2
  exact ⟨rfl, below_seq (hbA _) hb2 (Nat.le_refl _)⟩
set_option maxRecDepth 200000 in
set_option maxHeartbeats 4000000 in
theorem ROne_83 (t o : Int) (w : World) (h1 : -9223372036854775808 ≤ t) (h2 : t ≤ 9223372036854775807) :
    Calls Tryd.prog 39 #[.int .u8 83, .int .i64 t, .int .i64 o] w fun e w' => e = .returned (resD (dirL t o 83)) ∧ Below w.heap.size w w' := by
  obtain ⟨a1, a2, a3, a4, a5, a6, a7, a8, a9, a10, a11, a12, a13, a14, a15, a16⟩ := dOf_bounds t o h1 h2
  have HO := ROf_calls t o w h1 h2
  rw [show dirL t o 83 = some (padL (dOf t o).second 2 48) from rfl]
  generalize dOf t o = d at *
  obtain ⟨y, mo, da, ho, mi, se, wd, yd⟩ := d
  simp only [Dt.val] at *
  obtain ⟨m, rfl⟩ := Int.eq_ofNat_of_zero_le (show (0 : Int) ≤ se by omega)
  rw [pad_two m (by omega)]
  go_enter Tryd.func39, Tryd.ntmps39
  go_wp2_with fail
  refine HO.mono ?_
  rintro e w1 ⟨rfl, hb⟩
  have hbA : ∀ ob, Below w.heap.size w (w1.alloc ob) := fun ob => hb.alloc hb.size _
  go_wp2_with fail
  refine (two_calls m (by omega) _).mono ?_
  rintro e w2 ⟨rfl, hb2⟩
  go_wp2
  go_ret2
  exact ⟨rfl, below_seq (hbA _) hb2 (Nat.le_refl _)⟩
set_option maxRecDepth 200000 in
set_option maxHeartbeats 4000000 in
theorem ROne_115 (t o : Int) (w : World) (h1 : -9223372036854775808 ≤ t) (h2 : t ≤ 9223372036854775807) :
    Calls Tryd.prog 39 #[.int .u8 115, .int .i64 t, .int .i64 o] w fun e w' => e = .returned (resD (dirL t o 115)) ∧ Below w.heap.size w w' := by
  obtain ⟨a1, a2, a3, a4, a5, a6, a7, a8, a9, a10, a11, a12, a13, a14, a15, a16⟩ := dOf_bounds t o h1 h2
  have HO := ROf_calls t o w h1 h2
  rw [show dirL t o 115 = some (Lib.itoa t) from rfl]
  generalize dOf t o = d at *
  obtain ⟨y, mo, da, ho, mi, se, wd, yd⟩ := d
  simp only [Dt.val] at *
  go_enter Tryd.func39, Tryd.ntmps39
  go_wp2_with fail
  refine HO.mono ?_
  rintro e w1 ⟨rfl, hb⟩
  have hbA : ∀ ob, Below w.heap.size w (w1.alloc ob) := fun ob => hb.alloc hb.size _
  go_wp2_with fail
  refine (RefDec_calls t h1 h2 _).mono ?_
  rintro e w2 ⟨rfl, hb2⟩
  go_wp2
  go_ret2
  exact ⟨rfl, below_seq (hbA _) hb2 (Nat.le_refl _)⟩
set_option maxRecDepth 200000 in
set_option maxHeartbeats 4000000 in
theorem ROne_37 (t o : Int) (w : World) (h1 : -9223372036854775808 ≤ t) (h2 : t ≤ 9223372036854775807) :
    Calls Tryd.prog 39 #[.int .u8 37, .int .i64 t, .int .i64 o] w fun e w' => e = .returned (resD (dirL t o 37)) ∧ Below w.heap.size w w' := by
  obtain ⟨a1, a2, a3, a4, a5, a6, a7, a8, a9, a10, a11, a12, a13, a14, a15, a16⟩ := dOf_bounds t o h1 h2
  have HO := ROf_calls t o w h1 h2
  rw [show dirL t o 37 = some ([37]) from rfl]
  generalize dOf t o = d at *
  obtain ⟨y, mo, da, ho, mi, se, wd, yd⟩ := d
  simp only [Dt.val] at *
  go_enter Tryd.func39, Tryd.ntmps39
  go_wp2_with fail
  refine HO.mono ?_
  rintro e w1 ⟨rfl, hb⟩
  have hbA : ∀ ob, Below w.heap.size w (w1.alloc ob) := fun ob => hb.alloc hb.size _
  go_wp2
  go_ret2
  exact ⟨rfl, hbA _⟩
end Go.Proofs.YtpiclilonkaffaaDoor
