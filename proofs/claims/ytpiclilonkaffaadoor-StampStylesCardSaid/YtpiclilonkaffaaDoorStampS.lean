/- The law StampStyles: its calls. -/
import Derived.Lib.QuietBelow
import Derived.Test.YtpiclilonkaffaaDoorStampL
namespace Go.Proofs.YtpiclilonkaffaaDoor
open Go.RowKit Go.Sort

set_option maxRecDepth 20000 in
set_option maxHeartbeats 1000000 in
theorem StampStyles_calls (style : Int) (own : List UInt8) (t n o : Int) (w : World) (hg : Glob w) (h1 : -9223372036854775808 ≤ t) (h2 : t ≤ 9223372036854775807) (h3 : -9223372036854775808 ≤ n) (h4 : n ≤ 9223372036854775807)
    (ho1 : -9223372036854775808 ≤ o) (ho2 : o ≤ 9223372036854775807) (hl : own.length ≤ 9223372036854775807) :
    Calls Tryd.prog 3 #[.agg #[.int .i64 style, .string ⟨own.toArray⟩, .int .i64 t, .int .i64 n, .int .i64 o]] w fun e w' => e = .returned (.bool true) ∧ Below w.heap.size w w' := by
  have HA := fun w hg => awake_calls w hg
  have HG := Lib.hid hg
  clear hg
  by_cases c1 : (own.length : Int) ≤ 100
  · have HR1 := fun w => (Recent_calls t n w h1 h2 h3 h4).mono fun e w' (h : e = .returned (.bool (recentB t n)) ∧ w' = w) => (⟨h.1, h.2 ▸ Below.refl _ _⟩ : e = .returned (.bool (recentB t n)) ∧ Below w.heap.size w w')
    have HR2 := fun w => (RRecent_calls t n w h1 h2 h3 h4).mono fun e w' (h : e = .returned (.bool (recentB t n)) ∧ w' = w) => (⟨h.1, h.2 ▸ Below.refl _ _⟩ : e = .returned (.bool (recentB t n)) ∧ Below w.heap.size w w')
    have HS1 := fun w hg => Style_calls style own t n o (by omega) w hg h1 h2 h3 h4
    have HS2 := fun w => RStyle_calls style own t n o (by omega) w h1 h2 h3 h4 ho1 ho2
    generalize recentB t n = r at *
    generalize styleL style own t n o = s at *
    go_enter Tryd.func3, Tryd.ntmps3
    go_wp2_with fail
    have hb0 : Below w.heap.size w (w.alloc (Obj.cells #[.int .i64 style, .string ⟨own.toArray⟩, .int .i64 t, .int .i64 n, .int .i64 o] 23)) := (Below.refl _ _).alloc (Nat.le_refl _) _
    have m0 := heap_alloc_new w (Obj.cells #[.int .i64 style, .string ⟨own.toArray⟩, .int .i64 t, .int .i64 n, .int .i64 o] 23)
    generalize (w.alloc (Obj.cells #[.int .i64 style, .string ⟨own.toArray⟩, .int .i64 t, .int .i64 n, .int .i64 o] 23)) = w0 at *
    refine (HA _ (HG.out.below hb0)).mono ?_
    rintro e w1 ⟨rfl, hb⟩
    have m1 := (hb.block _ (ltOf m0)).trans m0
    have c0 : w1.cell? ⟨w.heap.size, 1, none⟩ = some (.string ⟨own.toArray⟩) := cellOf m1 1
    go_wp2_with fail
    have hb1 := below_seq hb0 hb (Nat.le_refl _)
    have HC := fun (dd : Nat) (os : Array Obj) => cellOf (((below_regrown w1 dd os).block _ (ltOf m1)).trans m1)
    have C0 : ∀ dd os, (grow (redrawn w1 dd) os).cell? ⟨w.heap.size, 0, none⟩ = some (.int .i64 style) := fun dd os => HC dd os 0
    have C1 : ∀ dd os, (grow (redrawn w1 dd) os).cell? ⟨w.heap.size, 1, none⟩ = some (.string ⟨own.toArray⟩) := fun dd os => HC dd os 1
    have C2 : ∀ dd os, (grow (redrawn w1 dd) os).cell? ⟨w.heap.size, 2, none⟩ = some (.int .i64 t) := fun dd os => HC dd os 2
    have C3 : ∀ dd os, (grow (redrawn w1 dd) os).cell? ⟨w.heap.size, 3, none⟩ = some (.int .i64 n) := fun dd os => HC dd os 3
    have C4 : ∀ dd os, (grow (redrawn w1 dd) os).cell? ⟨w.heap.size, 4, none⟩ = some (.int .i64 o) := fun dd os => HC dd os 4
    have HS1' := fun (dd : Nat) (os : Array Obj) => HS1 (grow (redrawn w1 dd) os) ((HG.out.below hb1).below (below_regrown _ _ _))
    clear HC m0 m1 c0 HS1 HA
    refine wp_region_quiet_below (by kernel_rfl) (by kernel_rfl) ?_
    repeat (quiet_step (first | with_reducible exact Calls.regrown_of (HR1 _) | with_reducible exact Calls.regrown_of (HR2 _) | with_reducible exact Calls.regrown_of (HS1' _ _) | with_reducible exact Calls.regrown_of (HS2 _)))
    refine wpQuiet_nil ?_
    intro _ hw'
    obtain ⟨⟨dq, osq⟩, hw''⟩ := hw'
    subst hw''
    go_wp2
    go_ret
    exact ⟨by simp, below_seq hb1 (below_regrown _ _ _) (Nat.le_refl _)⟩
  · go_enter Tryd.func3, Tryd.ntmps3
    go_wp2_with fail
    have hb0 : Below w.heap.size w (w.alloc (Obj.cells #[.int .i64 style, .string ⟨own.toArray⟩, .int .i64 t, .int .i64 n, .int .i64 o] 23)) := (Below.refl _ _).alloc (Nat.le_refl _) _
    have m0 := heap_alloc_new w (Obj.cells #[.int .i64 style, .string ⟨own.toArray⟩, .int .i64 t, .int .i64 n, .int .i64 o] 23)
    generalize (w.alloc (Obj.cells #[.int .i64 style, .string ⟨own.toArray⟩, .int .i64 t, .int .i64 n, .int .i64 o] 23)) = w0 at *
    refine (HA _ (HG.out.below hb0)).mono ?_
    rintro e w1 ⟨rfl, hb⟩
    have m1 := (hb.block _ (ltOf m0)).trans m0
    have c0 : w1.cell? ⟨w.heap.size, 1, none⟩ = some (.string ⟨own.toArray⟩) := cellOf m1 1
    have hb1 := below_seq hb0 hb (Nat.le_refl _)
    clear m0 m1
    go_wp2_with fail
    refine (HA _ (HG.out.below hb1)).mono ?_
    rintro e w2 ⟨rfl, hb2⟩
    go_wp2
    go_ret
    exact ⟨rfl, below_seq hb1 hb2 (Nat.le_refl _)⟩
end Go.Proofs.YtpiclilonkaffaaDoor
