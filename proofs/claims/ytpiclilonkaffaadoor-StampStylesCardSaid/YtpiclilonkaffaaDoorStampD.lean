/- stamp.directive: its calls, but for F and T. -/
import Derived.Test.YtpiclilonkaffaaDoorStampW
namespace Go.Proofs.YtpiclilonkaffaaDoor
open Go.RowKit

/-- What a directive answers. -/
def resD (o : Option (List UInt8)) : Value := .tuple #[.string ⟨(o.getD []).toArray⟩, .bool o.isSome]

theorem eq8 {c : UInt8} {n : Nat} (h : c.toNat ≠ n) : (((c.toNat : Nat) : Int) == (n : Int)) = false := by
  rw [beq_eq_false_iff_ne]; omega
theorem ne8 {c d : UInt8} (h : c.toNat ≠ d.toNat) : c ≠ d := fun e => h (by rw [e])

set_option maxRecDepth 100000 in
set_option maxHeartbeats 4000000 in
theorem directive_num (n : Nat) (t o : Int) (w : World) (hg : Glob w) (h1 : -9223372036854775808 ≤ t) (h2 : t ≤ 9223372036854775807)
    (hn : n = 89 ∨ n = 109 ∨ n = 100 ∨ n = 101 ∨ n = 72 ∨ n = 77 ∨ n = 83 ∨ n = 106 ∨ n = 98 ∨ n = 97 ∨ n = 115 ∨ n = 122 ∨ n = 37) :
    Calls Tryd.prog 35 #[.int .u8 n, .int .i64 t, .int .i64 o] w fun e w' => e = .returned (resD (dirS t o (UInt8.ofNat n))) ∧ Below w.heap.size w w' := by
  obtain ⟨a1, a2, a3, a4, a5, a6, a7, a8, a9, a10, a11, a12, a13, a14, a15, a16⟩ := dOf_bounds t o h1 h2
  have HO := Of_calls t o w h1 h2
  unfold dirS
  dsimp only
  generalize hd : dOf t o = d at *
  obtain ⟨y, mo, da, ho, mi, se, wd, yd⟩ := d
  simp only [Dt.val] at *
  clear hd
  rcases hn with rfl | rfl | rfl | rfl | rfl | rfl | rfl | rfl | rfl | rfl | rfl | rfl | rfl
  · go_enter Tryd.func35, Tryd.ntmps35
    go_wp2_with fail
    refine HO.mono ?_
    rintro e w1 ⟨rfl, hb⟩
    have hgA : ∀ ob, Glob (w1.alloc ob) := fun ob => (hg.below hb).below ((Below.refl _ _).alloc (Nat.le_refl _) _)
    have hbA : ∀ ob, Below w.heap.size w (w1.alloc ob) := fun ob => hb.alloc hb.size _
    go_wp2_with fail
    refine (Dec_calls y _ (hgA _) (by omega) (by omega)).mono ?_
    rintro e w2 ⟨rfl, hb2⟩
    go_wp2
    go_ret2
    exact ⟨rfl, below_seq (hbA _) hb2 (Nat.le_refl _)⟩
  · go_enter Tryd.func35, Tryd.ntmps35
    go_wp2_with fail
    refine HO.mono ?_
    rintro e w1 ⟨rfl, hb⟩
    have hgA : ∀ ob, Glob (w1.alloc ob) := fun ob => (hg.below hb).below ((Below.refl _ _).alloc (Nat.le_refl _) _)
    have hbA : ∀ ob, Below w.heap.size w (w1.alloc ob) := fun ob => hb.alloc hb.size _
    go_wp2_with fail
    refine (pad_calls mo 2 48 _ (hgA _) (by omega) (by omega) (by omega)).mono ?_
    rintro e w2 ⟨rfl, hb2⟩
    go_wp2
    go_ret2
    exact ⟨rfl, below_seq (hbA _) hb2 (Nat.le_refl _)⟩
  · go_enter Tryd.func35, Tryd.ntmps35
    go_wp2_with fail
    refine HO.mono ?_
    rintro e w1 ⟨rfl, hb⟩
    have hgA : ∀ ob, Glob (w1.alloc ob) := fun ob => (hg.below hb).below ((Below.refl _ _).alloc (Nat.le_refl _) _)
    have hbA : ∀ ob, Below w.heap.size w (w1.alloc ob) := fun ob => hb.alloc hb.size _
    go_wp2_with fail
    refine (pad_calls da 2 48 _ (hgA _) (by omega) (by omega) (by omega)).mono ?_
    rintro e w2 ⟨rfl, hb2⟩
    go_wp2
    go_ret2
    exact ⟨rfl, below_seq (hbA _) hb2 (Nat.le_refl _)⟩
  · go_enter Tryd.func35, Tryd.ntmps35
    go_wp2_with fail
    refine HO.mono ?_
    rintro e w1 ⟨rfl, hb⟩
    have hgA : ∀ ob, Glob (w1.alloc ob) := fun ob => (hg.below hb).below ((Below.refl _ _).alloc (Nat.le_refl _) _)
    have hbA : ∀ ob, Below w.heap.size w (w1.alloc ob) := fun ob => hb.alloc hb.size _
    go_wp2_with fail
    refine (pad_calls da 2 32 _ (hgA _) (by omega) (by omega) (by omega)).mono ?_
    rintro e w2 ⟨rfl, hb2⟩
    go_wp2
    go_ret2
    exact ⟨rfl, below_seq (hbA _) hb2 (Nat.le_refl _)⟩
  · go_enter Tryd.func35, Tryd.ntmps35
    go_wp2_with fail
    refine HO.mono ?_
    rintro e w1 ⟨rfl, hb⟩
    have hgA : ∀ ob, Glob (w1.alloc ob) := fun ob => (hg.below hb).below ((Below.refl _ _).alloc (Nat.le_refl _) _)
    have hbA : ∀ ob, Below w.heap.size w (w1.alloc ob) := fun ob => hb.alloc hb.size _
    go_wp2_with fail
    refine (pad_calls ho 2 48 _ (hgA _) (by omega) (by omega) (by omega)).mono ?_
    rintro e w2 ⟨rfl, hb2⟩
    go_wp2
    go_ret2
    exact ⟨rfl, below_seq (hbA _) hb2 (Nat.le_refl _)⟩
  · go_enter Tryd.func35, Tryd.ntmps35
    go_wp2_with fail
    refine HO.mono ?_
    rintro e w1 ⟨rfl, hb⟩
    have hgA : ∀ ob, Glob (w1.alloc ob) := fun ob => (hg.below hb).below ((Below.refl _ _).alloc (Nat.le_refl _) _)
    have hbA : ∀ ob, Below w.heap.size w (w1.alloc ob) := fun ob => hb.alloc hb.size _
    go_wp2_with fail
    refine (pad_calls mi 2 48 _ (hgA _) (by omega) (by omega) (by omega)).mono ?_
    rintro e w2 ⟨rfl, hb2⟩
    go_wp2
    go_ret2
    exact ⟨rfl, below_seq (hbA _) hb2 (Nat.le_refl _)⟩
  · go_enter Tryd.func35, Tryd.ntmps35
    go_wp2_with fail
    refine HO.mono ?_
    rintro e w1 ⟨rfl, hb⟩
    have hgA : ∀ ob, Glob (w1.alloc ob) := fun ob => (hg.below hb).below ((Below.refl _ _).alloc (Nat.le_refl _) _)
    have hbA : ∀ ob, Below w.heap.size w (w1.alloc ob) := fun ob => hb.alloc hb.size _
    go_wp2_with fail
    refine (pad_calls se 2 48 _ (hgA _) (by omega) (by omega) (by omega)).mono ?_
    rintro e w2 ⟨rfl, hb2⟩
    go_wp2
    go_ret2
    exact ⟨rfl, below_seq (hbA _) hb2 (Nat.le_refl _)⟩
  · go_enter Tryd.func35, Tryd.ntmps35
    go_wp2_with fail
    refine HO.mono ?_
    rintro e w1 ⟨rfl, hb⟩
    have hgA : ∀ ob, Glob (w1.alloc ob) := fun ob => (hg.below hb).below ((Below.refl _ _).alloc (Nat.le_refl _) _)
    have hbA : ∀ ob, Below w.heap.size w (w1.alloc ob) := fun ob => hb.alloc hb.size _
    go_wp2_with fail
    refine (pad_calls yd 3 48 _ (hgA _) (by omega) (by omega) (by omega)).mono ?_
    rintro e w2 ⟨rfl, hb2⟩
    go_wp2
    go_ret2
    exact ⟨rfl, below_seq (hbA _) hb2 (Nat.le_refl _)⟩
  · go_enter Tryd.func35, Tryd.ntmps35
    go_wp2_with fail
    refine HO.mono ?_
    rintro e w1 ⟨rfl, hb⟩
    have hgA : ∀ ob, Glob (w1.alloc ob) := fun ob => (hg.below hb).below ((Below.refl _ _).alloc (Nat.le_refl _) _)
    have hbA : ∀ ob, Below w.heap.size w (w1.alloc ob) := fun ob => hb.alloc hb.size _
    go_wp2
    go_ret2
    refine ⟨?_, hbA _⟩
    obtain rfl | rfl | rfl | rfl | rfl | rfl | rfl | rfl | rfl | rfl | rfl | rfl : mo = 1 ∨ mo = 2 ∨ mo = 3 ∨ mo = 4 ∨ mo = 5 ∨ mo = 6 ∨ mo = 7 ∨ mo = 8 ∨ mo = 9 ∨ mo = 10 ∨ mo = 11 ∨ mo = 12 := by omega
    all_goals rfl
  · go_enter Tryd.func35, Tryd.ntmps35
    go_wp2_with fail
    refine HO.mono ?_
    rintro e w1 ⟨rfl, hb⟩
    have hgA : ∀ ob, Glob (w1.alloc ob) := fun ob => (hg.below hb).below ((Below.refl _ _).alloc (Nat.le_refl _) _)
    have hbA : ∀ ob, Below w.heap.size w (w1.alloc ob) := fun ob => hb.alloc hb.size _
    go_wp2
    go_ret2
    refine ⟨?_, hbA _⟩
    obtain rfl | rfl | rfl | rfl | rfl | rfl | rfl : wd = 0 ∨ wd = 1 ∨ wd = 2 ∨ wd = 3 ∨ wd = 4 ∨ wd = 5 ∨ wd = 6 := by omega
    all_goals rfl
  · go_enter Tryd.func35, Tryd.ntmps35
    go_wp2_with fail
    refine HO.mono ?_
    rintro e w1 ⟨rfl, hb⟩
    have hgA : ∀ ob, Glob (w1.alloc ob) := fun ob => (hg.below hb).below ((Below.refl _ _).alloc (Nat.le_refl _) _)
    have hbA : ∀ ob, Below w.heap.size w (w1.alloc ob) := fun ob => hb.alloc hb.size _
    go_wp2_with fail
    refine (Dec_calls t _ (hgA _) (by omega) (by omega)).mono ?_
    rintro e w2 ⟨rfl, hb2⟩
    go_wp2
    go_ret2
    exact ⟨rfl, below_seq (hbA _) hb2 (Nat.le_refl _)⟩
  · go_enter Tryd.func35, Tryd.ntmps35
    go_wp2_with fail
    refine HO.mono ?_
    rintro e w1 ⟨rfl, hb⟩
    have hgA : ∀ ob, Glob (w1.alloc ob) := fun ob => (hg.below hb).below ((Below.refl _ _).alloc (Nat.le_refl _) _)
    have hbA : ∀ ob, Below w.heap.size w (w1.alloc ob) := fun ob => hb.alloc hb.size _
    go_wp2_with fail
    refine (zone_calls o _ (hgA _)).mono ?_
    rintro e w2 ⟨rfl, hb2⟩
    go_wp2
    go_ret2
    exact ⟨rfl, below_seq (hbA _) hb2 (Nat.le_refl _)⟩
  · go_enter Tryd.func35, Tryd.ntmps35
    go_wp2_with fail
    refine HO.mono ?_
    rintro e w1 ⟨rfl, hb⟩
    have hgA : ∀ ob, Glob (w1.alloc ob) := fun ob => (hg.below hb).below ((Below.refl _ _).alloc (Nat.le_refl _) _)
    have hbA : ∀ ob, Below w.heap.size w (w1.alloc ob) := fun ob => hb.alloc hb.size _
    go_wp2
    go_ret2
    exact ⟨rfl, hbA _⟩

set_option maxRecDepth 100000 in
set_option maxHeartbeats 1000000 in
theorem directive_none (n : Nat) (t o : Int) (w : World) (h1 : -9223372036854775808 ≤ t) (h2 : t ≤ 9223372036854775807)
    (hn : ¬ (n = 89 ∨ n = 109 ∨ n = 100 ∨ n = 101 ∨ n = 72 ∨ n = 77 ∨ n = 83 ∨ n = 106 ∨ n = 98 ∨ n = 97 ∨ n = 115 ∨ n = 122 ∨ n = 37 ∨ n = 70 ∨ n = 84)) :
    Calls Tryd.prog 35 #[.int .u8 n, .int .i64 t, .int .i64 o] w fun e w' => e = .returned (resD none) ∧ Below w.heap.size w w' := by
  have HO := Of_calls t o w h1 h2
  generalize hd : dOf t o = d at *
  obtain ⟨y, mo, da, ho, mi, se, wd, yd⟩ := d
  simp only [Dt.val] at *
  clear hd
  have z : ∀ m : Nat, n ≠ m → ((n : Int) == (m : Int)) = false := fun m h => by rw [beq_eq_false_iff_ne]; omega
  have k1 := z 89 (by omega)
  have k2 := z 109 (by omega)
  have k3 := z 100 (by omega)
  have k4 := z 101 (by omega)
  have k5 := z 72 (by omega)
  have k6 := z 77 (by omega)
  have k7 := z 83 (by omega)
  have k8 := z 106 (by omega)
  have k9 := z 98 (by omega)
  have k10 := z 97 (by omega)
  have k11 := z 115 (by omega)
  have k12 := z 122 (by omega)
  have k13 := z 70 (by omega)
  have k14 := z 84 (by omega)
  have k15 := z 37 (by omega)
  simp only [Int.cast_ofNat_Int] at k1 k2 k3 k4 k5 k6 k7 k8 k9 k10 k11 k12 k13 k14 k15
  clear z hn
  go_enter Tryd.func35, Tryd.ntmps35
  go_wp2_with fail
  refine HO.mono ?_
  rintro e w1 ⟨rfl, hb⟩
  go_wp2
  go_ret2
  exact ⟨rfl, hb.alloc hb.size _⟩
end Go.Proofs.YtpiclilonkaffaaDoor
