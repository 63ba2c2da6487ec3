/- The reference's directives of the whole date and the whole hour: their calls. -/
import Derived.Test.YtpiclilonkaffaaDoorStampZ
namespace Go.Proofs.YtpiclilonkaffaaDoor
open Go.RowKit Go.Sort

theorem dirL_F (t o : Int) : dirL t o 70 = some (Lib.itoa (dOf t o).year ++ [45] ++ padL (dOf t o).month 2 48 ++ [45] ++ padL (dOf t o).day 2 48) := by
  simp [dirL, fmtF, fmtWith, dirS]
theorem dirL_T (t o : Int) : dirL t o 84 = some (padL (dOf t o).hour 2 48 ++ [58] ++ padL (dOf t o).minute 2 48 ++ [58] ++ padL (dOf t o).second 2 48) := by
  simp [dirL, fmtT, fmtWith, dirS]

set_option maxRecDepth 200000 in
set_option maxHeartbeats 2000000 in
theorem ROne_70 (t o : Int) (w : World) (h1 : -9223372036854775808 ≤ t) (h2 : t ≤ 9223372036854775807) :
    Calls Tryd.prog 39 #[.int .u8 70, .int .i64 t, .int .i64 o] w fun e w' => e = .returned (resD (dirL t o 70)) ∧ Below w.heap.size w w' := by
  obtain ⟨a1, a2, a3, a4, a5, a6, a7, a8, a9, a10, a11, a12, a13, a14, a15, a16⟩ := dOf_bounds t o h1 h2
  have HO := ROf_calls t o w h1 h2
  rw [dirL_F]
  generalize dOf t o = d at *
  obtain ⟨y, mo, da, ho, mi, se, wd, yd⟩ := d
  simp only [Dt.val] at *
  obtain ⟨m, rfl⟩ := Int.eq_ofNat_of_zero_le (show (0 : Int) ≤ mo by omega)
  obtain ⟨k, rfl⟩ := Int.eq_ofNat_of_zero_le (show (0 : Int) ≤ da by omega)
  rw [pad_two m (by omega), pad_two k (by omega)]
  have hl := Lib.itoa_length_le y (by omega) (by omega)
  have H1 := fun w => RefDec_calls y (by omega) (by omega) w
  have H2 := fun w => two_calls m (by omega) w
  have H3 := fun w => two_calls k (by omega) w
  have lp : (twoL m).length = 2 := rfl
  have lq : (twoL k).length = 2 := rfl
  generalize Lib.itoa y = l at *
  generalize twoL m = p at *
  generalize twoL k = q at *
  have n1 : ¬ 9223372036854775807 < l.length + 1 := by omega
  have n2 : ¬ 9223372036854775807 < l.length + 1 + p.length := by omega
  have n3 : ¬ 9223372036854775807 < l.length + 1 + p.length + 1 := by omega
  have n4 : ¬ 9223372036854775807 < l.length + 1 + p.length + 1 + q.length := by omega
  clear lp lq hl
  go_enter Tryd.func39, Tryd.ntmps39
  go_wp2_with fail
  refine HO.mono ?_
  rintro e w1 ⟨rfl, hb⟩
  have hbA : ∀ ob, Below w.heap.size w (w1.alloc ob) := fun ob => hb.alloc hb.size _
  go_wp2_with fail
  have m2 := heap_alloc_new w1 (Obj.cells #[Value.int .i64 y, Value.int .i64 m, Value.int .i64 k, Value.int .i64 ho, Value.int .i64 mi, Value.int .i64 se, Value.int .i64 wd, Value.int .i64 yd] 114)
  have hbB := hbA (Obj.cells #[Value.int .i64 y, Value.int .i64 m, Value.int .i64 k, Value.int .i64 ho, Value.int .i64 mi, Value.int .i64 se, Value.int .i64 wd, Value.int .i64 yd] 114)
  generalize (w1.alloc (Obj.cells #[Value.int .i64 y, Value.int .i64 m, Value.int .i64 k, Value.int .i64 ho, Value.int .i64 mi, Value.int .i64 se, Value.int .i64 wd, Value.int .i64 yd] 114)) = w2 at *
  have cG := fun (dd : Nat) (os : Array Obj) => cellOf (((below_regrown w2 dd os).block _ (ltOf m2)).trans m2)
  have fG := fun (dd : Nat) (os : Array Obj) => frozenOf (((below_regrown w2 dd os).block _ (ltOf m2)).trans m2)
  clear m2
  refine wp_region_quiet_below (by kernel_rfl) (by kernel_rfl) ?_
  repeat (quiet_step (first | with_reducible exact Calls.regrown_of (H1 _) | with_reducible exact Calls.regrown_of (H2 _) | with_reducible exact Calls.regrown_of (H3 _)))
  refine wpQuiet_nil ?_
  intro _ hw'
  obtain ⟨⟨dq, osq⟩, hw''⟩ := hw'
  subst hw''
  go_wp2
  go_ret2
  refine ⟨congrArg (fun b => Ending.returned (.tuple #[.string b, .bool true])) (?_ : (⟨l.toArray⟩ : ByteArray) ++ (⟨[45].toArray⟩ : ByteArray) ++ (⟨p.toArray⟩ : ByteArray) ++ (⟨[45].toArray⟩ : ByteArray) ++ (⟨q.toArray⟩ : ByteArray) = ⟨(l ++ [45] ++ p ++ [45] ++ q).toArray⟩), below_seq hbB (below_regrown _ _ _) (Nat.le_refl _)⟩
  rw [bcat, bcat, bcat, bcat]
set_option maxRecDepth 200000 in
set_option maxHeartbeats 2000000 in
theorem ROne_84 (t o : Int) (w : World) (h1 : -9223372036854775808 ≤ t) (h2 : t ≤ 9223372036854775807) :
    Calls Tryd.prog 39 #[.int .u8 84, .int .i64 t, .int .i64 o] w fun e w' => e = .returned (resD (dirL t o 84)) ∧ Below w.heap.size w w' := by
  obtain ⟨a1, a2, a3, a4, a5, a6, a7, a8, a9, a10, a11, a12, a13, a14, a15, a16⟩ := dOf_bounds t o h1 h2
  have HO := ROf_calls t o w h1 h2
  rw [dirL_T]
  generalize dOf t o = d at *
  obtain ⟨y, mo, da, ho, mi, se, wd, yd⟩ := d
  simp only [Dt.val] at *
  obtain ⟨k0, rfl⟩ := Int.eq_ofNat_of_zero_le (show (0 : Int) ≤ ho by omega)
  obtain ⟨m, rfl⟩ := Int.eq_ofNat_of_zero_le (show (0 : Int) ≤ mi by omega)
  obtain ⟨k, rfl⟩ := Int.eq_ofNat_of_zero_le (show (0 : Int) ≤ se by omega)
  rw [pad_two k0 (by omega), pad_two m (by omega), pad_two k (by omega)]
  have H1 := fun w => two_calls k0 (by omega) w
  have H2 := fun w => two_calls m (by omega) w
  have H3 := fun w => two_calls k (by omega) w
  have hl : (twoL k0).length = 2 := rfl
  have lp : (twoL m).length = 2 := rfl
  have lq : (twoL k).length = 2 := rfl
  generalize twoL k0 = l at *
  generalize twoL m = p at *
  generalize twoL k = q at *
  have n1 : ¬ 9223372036854775807 < l.length + 1 := by omega
  have n2 : ¬ 9223372036854775807 < l.length + 1 + p.length := by omega
  have n3 : ¬ 9223372036854775807 < l.length + 1 + p.length + 1 := by omega
  have n4 : ¬ 9223372036854775807 < l.length + 1 + p.length + 1 + q.length := by omega
  clear lp lq hl
  go_enter Tryd.func39, Tryd.ntmps39
  go_wp2_with fail
  refine HO.mono ?_
  rintro e w1 ⟨rfl, hb⟩
  have hbA : ∀ ob, Below w.heap.size w (w1.alloc ob) := fun ob => hb.alloc hb.size _
  go_wp2_with fail
  have m2 := heap_alloc_new w1 (Obj.cells #[Value.int .i64 y, Value.int .i64 mo, Value.int .i64 da, Value.int .i64 k0, Value.int .i64 m, Value.int .i64 k, Value.int .i64 wd, Value.int .i64 yd] 114)
  have hbB := hbA (Obj.cells #[Value.int .i64 y, Value.int .i64 mo, Value.int .i64 da, Value.int .i64 k0, Value.int .i64 m, Value.int .i64 k, Value.int .i64 wd, Value.int .i64 yd] 114)
  generalize (w1.alloc (Obj.cells #[Value.int .i64 y, Value.int .i64 mo, Value.int .i64 da, Value.int .i64 k0, Value.int .i64 m, Value.int .i64 k, Value.int .i64 wd, Value.int .i64 yd] 114)) = w2 at *
  have cG := fun (dd : Nat) (os : Array Obj) => cellOf (((below_regrown w2 dd os).block _ (ltOf m2)).trans m2)
  have fG := fun (dd : Nat) (os : Array Obj) => frozenOf (((below_regrown w2 dd os).block _ (ltOf m2)).trans m2)
  clear m2
  refine wp_region_quiet_below (by kernel_rfl) (by kernel_rfl) ?_
  repeat (quiet_step (first | with_reducible exact Calls.regrown_of (H1 _) | with_reducible exact Calls.regrown_of (H2 _) | with_reducible exact Calls.regrown_of (H3 _)))
  refine wpQuiet_nil ?_
  intro _ hw'
  obtain ⟨⟨dq, osq⟩, hw''⟩ := hw'
  subst hw''
  go_wp2
  go_ret2
  refine ⟨congrArg (fun b => Ending.returned (.tuple #[.string b, .bool true])) (?_ : (⟨l.toArray⟩ : ByteArray) ++ (⟨[58].toArray⟩ : ByteArray) ++ (⟨p.toArray⟩ : ByteArray) ++ (⟨[58].toArray⟩ : ByteArray) ++ (⟨q.toArray⟩ : ByteArray) = ⟨(l ++ [58] ++ p ++ [58] ++ q).toArray⟩), below_seq hbB (below_regrown _ _ _) (Nat.le_refl _)⟩
  rw [bcat, bcat, bcat, bcat]
end Go.Proofs.YtpiclilonkaffaaDoor
