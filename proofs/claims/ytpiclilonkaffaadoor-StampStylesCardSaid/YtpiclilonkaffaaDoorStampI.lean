/- stamp.Recent, the law's awake: their calls. -/
import Derived.Test.YtpiclilonkaffaaDoorStampF
namespace Go.Proofs.YtpiclilonkaffaaDoor
open Go.RowKit

def recentB (t n : Int) : Bool := decide (t ≤ n) && decide (n - t < 15778476)

theorem Recent_calls (t n : Int) (w : World) (h1 : -9223372036854775808 ≤ t) (h2 : t ≤ 9223372036854775807) (h3 : -9223372036854775808 ≤ n) (h4 : n ≤ 9223372036854775807) :
    Calls Tryd.prog 8 #[.int .i64 t, .int .i64 n] w fun e w' => e = .returned (.bool (recentB t n)) ∧ w' = w := by
  by_cases h : t ≤ n
  · have e : recentB t n = decide (IntKind.u64.wrap (IntKind.u64.wrap n - IntKind.u64.wrap t) < 15778476) := by
      unfold recentB
      rw [decide_eq_true h, Bool.true_and]
      congr 1
      simp only [IntKind.wrap, IntKind.bits, IntKind.signed]
      apply propext
      simp
      omega
    rw [e]
    clear e
    go_enter Tryd.func8, Tryd.ntmps8
    go_wp2_with fail
    go_ret
    exact ⟨rfl, rfl⟩
  · have e : recentB t n = false := by unfold recentB; rw [decide_eq_false h]; rfl
    rw [e]
    clear e
    go_enter Tryd.func8, Tryd.ntmps8
    go_wp2_with fail
    go_ret
    exact ⟨rfl, rfl⟩

theorem awake_calls (w : World) (hg : Glob w) :
    Calls Tryd.prog 7 #[] w fun e w' => e = .returned (.bool true) ∧ Below w.heap.size w w' := by
  have HF := Format_calls [37, 70] 0 0 (by decide) w hg (by decide) (by decide)
  have HR := fun w => Recent_calls 0 5 w (by decide) (by decide) (by decide) (by decide)
  rw [show fmtL [37, 70] 0 0 = [49, 57, 55, 48, 45, 48, 49, 45, 48, 49] by decide +kernel] at HF
  rw [show recentB 0 5 = true by decide] at HR
  go_enter Tryd.func7, Tryd.ntmps7
  go_wp2_with fail
  refine HF.mono ?_
  rintro e w1 ⟨rfl, hb⟩
  go_wp2_with fail
  refine (HR _).mono ?_
  rintro e w1 ⟨rfl, rfl⟩
  go_wp2
  go_ret
  exact ⟨rfl, hb⟩

end Go.Proofs.YtpiclilonkaffaaDoor
