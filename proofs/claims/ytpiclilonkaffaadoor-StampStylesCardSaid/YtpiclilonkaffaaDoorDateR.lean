/- The reference's way to a date, as plain functions, and that it comes to the same. -/
import Derived.Test.YtpiclilonkaffaaDoorDateP
namespace Go.Proofs.YtpiclilonkaffaaDoor

/-- The days ahead of a year, from the year 0 on. -/
def dby (y : Int) : Int := 365 * y + (y + 3) / 4 - (y + 99) / 100 + (y + 399) / 400
def lenB (y : Int) : Int := if leapB y then 366 else 365
theorem lenB_le (y : Int) : 365 ≤ lenB y ∧ lenB y ≤ 366 := by unfold lenB; split <;> omega
theorem dby_succ (y : Int) : dby (y + 1) = dby y + lenB y := by
  unfold dby lenB
  have hl := leapB_iff y
  by_cases hb : leapB y = true
  · rw [if_pos hb]; have := hl.1 hb; omega
  · rw [if_neg hb]
    have h3 : ¬ (y % 4 = 0 ∧ (y % 100 ≠ 0 ∨ y % 400 = 0)) := fun h => hb (hl.2 h)
    omega
theorem dby_mono (a b : Int) (h : a < b) : dby (a + 1) ≤ dby b := by unfold dby; omega
theorem dby_uniq {a b N : Int} (h1 : dby a ≤ N) (h2 : N < dby a + lenB a) (h3 : dby b ≤ N) (h4 : N < dby b + lenB b) : a = b := by
  rcases Int.lt_trichotomy a b with h | h | h
  · have := dby_mono a b h
    rw [dby_succ] at this; omega
  · exact h
  · have := dby_mono b a h
    rw [dby_succ] at this; omega
theorem dby_400 (y k : Int) : dby (y + 400 * k) = dby y + 146097 * k := by unfold dby; omega
theorem leapB_400 (y k : Int) : leapB (y + 400 * k) = leapB y := by
  unfold leapB
  rw [show (y + 400 * k) % 4 = y % 4 by omega, show (y + 400 * k) % 100 = y % 100 by omega, show (y + 400 * k) % 400 = y % 400 by omega]
theorem lenB_400 (y k : Int) : lenB (y + 400 * k) = lenB y := by unfold lenB; rw [leapB_400]
theorem dBefore_dby (y : Int) (h0 : 0 ≤ y) (h1 : y < 400) : dBefore y = dby y := by unfold dBefore dby; split <;> omega
theorem dDays_400 (y k m : Int) : dDays (y + 400 * k) m = dDays y m := by unfold dDays; rw [leapB_400]
theorem findM_400 (y k : Int) : ∀ (n : Nat) (d m : Int), findM (y + 400 * k) n d m = findM y n d m
  | 0, _, _ => rfl
  | n + 1, d, m => by unfold findM; rw [dDays_400, findM_400 y k n]

/-- The reference's steps come to the date of the time. -/
theorem ref_eq (t o c s day rest Y x wk : Int) (ht : t = 12622780800 * c + s) (hs : s + clampOff o = 86400 * day + rest) (hr0 : 0 ≤ rest) (hr1 : rest < 86400)
    (hY : dby Y + x = day + 719528) (hx0 : 0 ≤ x) (hx1 : x < lenB Y) (hwk : wk = (day + 4) % 7) :
    dOf t o = ⟨Y + 400 * c, (findM Y 12 (x + 1) 1).2, (findM Y 12 (x + 1) 1).1, rest / 3600, rest / 60 % 60, rest % 60, wk, x + 1⟩ := by
  have hD : (t + clampOff o) / 86400 = day + 146097 * c := by omega
  have hS : (t + clampOff o) % 86400 = rest := by omega
  unfold dOf
  dsimp only
  rw [hD, hS]
  generalize hcy : (day + 146097 * c + 719528) / 146097 = cyc
  generalize hin : (day + 146097 * c + 719528) % 146097 = inn
  have hi0 : 0 ≤ inn := by omega
  have hi1 : inn < 146097 := by omega
  obtain ⟨y0, e0, y1, y2, y3, y4, y5⟩ := year_bounds inn hi0 hi1
  rw [← e0]
  generalize hR : findY inn y0 = R at *
  have hb := dBefore_dby (R : Int) (by omega) (by omega)
  have h400 := dby_400 Y c
  have h400' := dby_400 (R : Int) cyc
  have l1 := lenB_400 Y c
  have l2 := lenB_400 (R : Int) cyc
  have hl : (if leapB (R : Int) then (366 : Int) else 365) = lenB (R : Int) := rfl
  rw [hl] at y5
  have hu : Y + 400 * c = (R : Int) + 400 * cyc :=
    dby_uniq (N := dby Y + x + 146097 * c) (by omega) (by omega) (by omega) (by omega)
  rw [hu] at h400
  have hx : x = inn - dBefore (R : Int) := by omega
  have hM : ∀ n d m, findM (R : Int) n d m = findM Y n d m := fun n d m => by
    rw [← findM_400 (R : Int) cyc, ← hu, findM_400]
  rw [hM, ← hx]
  congr 1
  · omega
  · omega
end Go.Proofs.YtpiclilonkaffaaDoor
