/- The reference's directives joined, and its format: their calls. -/
import Derived.Test.YtpiclilonkaffaaDoorStampX
import Derived.Test.YtpiclilonkaffaaDoorStampF
namespace Go.Proofs.YtpiclilonkaffaaDoor
open Go.RowKit

set_option maxRecDepth 200000 in
set_option maxHeartbeats 2000000 in
theorem ROne_none (n : Nat) (t o : Int) (w : World) (h1 : -9223372036854775808 ≤ t) (h2 : t ≤ 9223372036854775807)
    (hn : ¬ (n = 89 ∨ n = 109 ∨ n = 100 ∨ n = 101 ∨ n = 72 ∨ n = 77 ∨ n = 83 ∨ n = 106 ∨ n = 98 ∨ n = 97 ∨ n = 115 ∨ n = 122 ∨ n = 37 ∨ n = 70 ∨ n = 84)) :
    Calls Tryd.prog 39 #[.int .u8 n, .int .i64 t, .int .i64 o] w fun e w' => e = .returned (resD none) ∧ Below w.heap.size w w' := by
  have HO := ROf_calls t o w h1 h2
  generalize hd : dOf t o = d at *
  obtain ⟨y, mo, da, ho, mi, se, wd, yd⟩ := d
  simp only [Dt.val] at *
  clear hd
  have z : ∀ m : Nat, n ≠ m → ((n : Int) == (m : Int)) = false := fun m h => by rw [beq_eq_false_iff_ne]; omega
  have k1 := z 89 (by omega)
  have k2 := z 109 (by omega)
  have k3 := z 100 (by omega)
  have k4 := z 101 (by omega)
  have k5 := z 72 (by omega)
  have k6 := z 77 (by omega)
  have k7 := z 83 (by omega)
  have k8 := z 106 (by omega)
  have k9 := z 98 (by omega)
  have k10 := z 97 (by omega)
  have k11 := z 115 (by omega)
  have k12 := z 122 (by omega)
  have k13 := z 70 (by omega)
  have k14 := z 84 (by omega)
  have k15 := z 37 (by omega)
  simp only [Int.cast_ofNat_Int] at k1 k2 k3 k4 k5 k6 k7 k8 k9 k10 k11 k12 k13 k14 k15
  clear z hn
  go_enter Tryd.func39, Tryd.ntmps39
  go_wp2_with fail
  refine HO.mono ?_
  rintro e w1 ⟨rfl, hb⟩
  go_wp2
  go_ret2
  exact ⟨rfl, hb.alloc hb.size _⟩

theorem dirL_none (t o : Int) (c : UInt8) (hn : ¬ (c.toNat = 89 ∨ c.toNat = 109 ∨ c.toNat = 100 ∨ c.toNat = 101 ∨ c.toNat = 72 ∨ c.toNat = 77 ∨ c.toNat = 83 ∨ c.toNat = 106 ∨ c.toNat = 98 ∨ c.toNat = 97 ∨ c.toNat = 115 ∨ c.toNat = 122 ∨ c.toNat = 37 ∨ c.toNat = 70 ∨ c.toNat = 84)) : dirL t o c = none := by
  have z : ∀ (d : UInt8) (m : Nat), d.toNat = m → c.toNat ≠ m → c ≠ d := fun d m hm h e => h (by rw [e, hm])
  unfold dirL
  rw [if_neg (z 70 70 rfl (by omega)), if_neg (z 84 84 rfl (by omega))]
  exact dirS_none t o c (by omega)

/-- Any directive of the reference. -/
theorem ROne_calls (c : UInt8) (t o : Int) (w : World) (h1 : -9223372036854775808 ≤ t) (h2 : t ≤ 9223372036854775807) (ho1 : -9223372036854775808 ≤ o) (ho2 : o ≤ 9223372036854775807) :
    Calls Tryd.prog 39 #[.int .u8 c.toNat, .int .i64 t, .int .i64 o] w fun e w' => e = .returned (resD (dirL t o c)) ∧ Below w.heap.size w w' := by
  by_cases hn : c.toNat = 89 ∨ c.toNat = 109 ∨ c.toNat = 100 ∨ c.toNat = 101 ∨ c.toNat = 72 ∨ c.toNat = 77 ∨ c.toNat = 83 ∨ c.toNat = 106 ∨ c.toNat = 98 ∨ c.toNat = 97 ∨ c.toNat = 115 ∨ c.toNat = 122 ∨ c.toNat = 37 ∨ c.toNat = 70 ∨ c.toNat = 84
  · have z : ∀ (d : UInt8), c.toNat = d.toNat → c = d := fun d h => UInt8.toNat_inj.1 h
    rcases hn with h | h | h | h | h | h | h | h | h | h | h | h | h | h | h
    · obtain rfl := z 89 h; exact ROne_89 t o w h1 h2
    · obtain rfl := z 109 h; exact ROne_109 t o w h1 h2
    · obtain rfl := z 100 h; exact ROne_100 t o w h1 h2
    · obtain rfl := z 101 h; exact ROne_101 t o w h1 h2
    · obtain rfl := z 72 h; exact ROne_72 t o w h1 h2
    · obtain rfl := z 77 h; exact ROne_77 t o w h1 h2
    · obtain rfl := z 83 h; exact ROne_83 t o w h1 h2
    · obtain rfl := z 106 h; exact ROne_106 t o w h1 h2
    · obtain rfl := z 98 h; exact ROne_98 t o w h1 h2
    · obtain rfl := z 97 h; exact ROne_97 t o w h1 h2
    · obtain rfl := z 115 h; exact ROne_115 t o w h1 h2
    · obtain rfl := z 122 h; exact ROne_122 t o w h1 h2 ho1 ho2
    · obtain rfl := z 37 h; exact ROne_37 t o w h1 h2
    · obtain rfl := z 70 h; exact ROne_70 t o w h1 h2
    · obtain rfl := z 84 h; exact ROne_84 t o w h1 h2
  · rw [dirL_none t o c hn]
    exact ROne_none c.toNat t o w h1 h2 hn
end Go.Proofs.YtpiclilonkaffaaDoor
