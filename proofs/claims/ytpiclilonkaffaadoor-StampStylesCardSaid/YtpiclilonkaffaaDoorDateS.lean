/- The reference's date functions: their calls. -/
import Derived.Test.YtpiclilonkaffaaDoorDateW
import Derived.Test.YtpiclilonkaffaaDoorDateR
namespace Go.Proofs.YtpiclilonkaffaaDoor
open Go.RowKit

set_option maxHeartbeats 400000 in
theorem RLeap_calls (y : Int) (w : World) (h0 : 0 ≤ y) (h1 : y ≤ 1000000) :
    Calls Tryd.prog 104 #[.int .i64 y] w fun e w' => e = .returned (.bool (leapB y)) ∧ w' = w := by
  unfold leapB
  by_cases h4 : y % 4 = 0
  · by_cases h100 : y % 100 = 0
    · by_cases h400 : y % 400 = 0
      all_goals
        go_enter Tryd.func104, Tryd.ntmps104
        go_wp2
        go_ret
        simp [*]
    · have h400 : ¬ y % 400 = 0 := by omega
      go_enter Tryd.func104, Tryd.ntmps104
      go_wp2
      go_ret
      simp [*]
  · have h400 : ¬ y % 400 = 0 := by omega
    go_enter Tryd.func104, Tryd.ntmps104
    go_wp2
    go_ret
    simp [*]

theorem Ryear_calls (y : Int) (w : World) (h0 : 0 ≤ y) (h1 : y ≤ 1000000) :
    Calls Tryd.prog 89 #[.int .i64 y] w fun e w' => e = .returned (.int .i64 (lenB y)) ∧ w' = w := by
  unfold lenB
  cases hb : leapB y
  all_goals
    have HB := Lib.hid hb; clear hb
    go_enter Tryd.func89, Tryd.ntmps89
    go_wp2_with (go_at_call 104; refine (RLeap_calls _ _ h0 h1).mono ?_; rw [HB.out]; rintro e w' ⟨rfl, rfl⟩)
    go_ret
    exact ⟨rfl, rfl⟩

set_option maxHeartbeats 1600000 in
theorem RDays_calls (y m : Int) (w : World) (h0 : 0 ≤ y) (h1 : y ≤ 1000000) (hm : 1 ≤ m) (hm2 : m ≤ 13) :
    Calls Tryd.prog 90 #[.int .i64 y, .int .i64 m] w fun e w' => e = .returned (.int .i64 (dDays y m)) ∧ Below w.heap.size w w' := by
  obtain rfl | rfl | rfl | rfl | rfl | rfl | rfl | rfl | rfl | rfl | rfl | rfl | rfl : m = 1 ∨ m = 2 ∨ m = 3 ∨ m = 4 ∨ m = 5 ∨ m = 6 ∨ m = 7 ∨ m = 8 ∨ m = 9 ∨ m = 10 ∨ m = 11 ∨ m = 12 ∨ m = 13 := by omega
  case inr.inl =>
    cases hb : leapB y
    all_goals
      have HB := Lib.hid hb; clear hb
      go_enter Tryd.func90, Tryd.ntmps90
      go_wp2_with (go_at_call 104; refine (RLeap_calls _ _ h0 h1).mono ?_; rw [HB.out]; rintro e w' ⟨rfl, rfl⟩)
      go_ret
      exact ⟨by simp [dDays, HB.out], (Below.refl _ _).alloc (Nat.le_refl _) _⟩
  all_goals
    go_enter Tryd.func90, Tryd.ntmps90
    go_wp2
    go_ret
    exact ⟨by simp [dDays], (Below.refl _ _).alloc (Nat.le_refl _) _⟩
end Go.Proofs.YtpiclilonkaffaaDoor
