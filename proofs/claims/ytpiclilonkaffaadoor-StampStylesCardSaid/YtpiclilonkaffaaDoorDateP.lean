/- The plain date functions of the program, as it goes. -/
namespace Go.Proofs.YtpiclilonkaffaaDoor

def leapB (y : Int) : Bool := (y % 4 == 0) && (y % 100 != 0 || y % 400 == 0)
def dDays (y m : Int) : Int :=
  if m = 1 ∨ m = 3 ∨ m = 5 ∨ m = 7 ∨ m = 8 ∨ m = 10 ∨ m = 12 then 31
  else if m = 4 ∨ m = 6 ∨ m = 9 ∨ m = 11 then 30
  else if m = 2 then (if leapB y then 29 else 28) else 0
def dBefore (y : Int) : Int := if y = 0 then 0 else 365 * y + (y - 1) / 4 - (y - 1) / 100 + 1
def clampOff (o : Int) : Int := min (max o (-86400)) 86400
def findY (inn : Int) : Nat → Nat
  | 0 => 0
  | y + 1 => if dBefore ((y + 1 : Nat) : Int) > inn then findY inn y else y + 1
def findM (y : Int) : Nat → Int → Int → Int × Int
  | 0, d, m => (d, m)
  | k + 1, d, m => if d > dDays y m then findM y k (d - dDays y m) (m + 1) else (d, m)

structure Dt where
  year : Int
  month : Int
  day : Int
  hour : Int
  minute : Int
  second : Int
  weekday : Int
  yearday : Int
  deriving DecidableEq

/-- The date of a time. -/
def dOf (time offset : Int) : Dt :=
  let t := time + clampOff offset
  let day := t / 86400
  let sec := t % 86400
  let cyc := (day + 719528) / 146097
  let inn := (day + 719528) % 146097
  let y : Int := findY inn (min (inn / 365) 399).toNat
  let yd := inn - dBefore y + 1
  let md := findM y 12 yd 1
  ⟨cyc * 400 + y, md.2, md.1, sec / 3600, sec / 60 % 60, sec % 60, (day + 4) % 7, yd⟩

theorem leapB_days (y m : Int) : 0 ≤ dDays y m ∧ dDays y m ≤ 31 := by unfold dDays; repeat' split <;> omega
theorem dBefore_le (y : Int) (h0 : 0 ≤ y) (h1 : y ≤ 400) : 0 ≤ dBefore y ∧ dBefore y ≤ 146097 := by unfold dBefore; split <;> omega
theorem findY_le (inn : Int) (h : 0 ≤ inn) : ∀ y : Nat, findY inn y ≤ y ∧ dBefore (findY inn y) ≤ inn
  | 0 => ⟨Nat.le_refl _, by simpa [findY, dBefore] using h⟩
  | y + 1 => by
    unfold findY
    split
    · have := findY_le inn h y; exact ⟨by omega, this.2⟩
    · exact ⟨Nat.le_refl _, by omega⟩
theorem leapB_iff (y : Int) : leapB y = true ↔ (y % 4 = 0 ∧ (y % 100 ≠ 0 ∨ y % 400 = 0)) := by simp [leapB]
theorem dBefore_succ (y : Int) (h0 : 0 ≤ y) (h400 : y < 400) : dBefore (y + 1) = dBefore y + (if leapB y then 366 else 365) := by
  unfold dBefore
  by_cases h : y = 0
  · subst h; decide
  · rw [if_neg (by omega), if_neg h]
    have hl := leapB_iff y
    by_cases hb : leapB y = true
    · rw [if_pos hb]; have := hl.1 hb; omega
    · rw [if_neg hb]
      have h3 : ¬ (y % 4 = 0 ∧ (y % 100 ≠ 0 ∨ y % 400 = 0)) := fun h => hb (hl.2 h)
      omega
theorem findY_max (inn : Int) : ∀ y : Nat, (∀ z : Nat, y < z → dBefore z > inn) → ∀ z : Nat, findY inn y < z → dBefore z > inn
  | 0, h, z, hz => h z (by simpa [findY] using hz)
  | y + 1, h, z, hz => by
    unfold findY at hz
    split at hz
    · rename_i hg
      refine findY_max inn y (fun z hz => ?_) z hz
      by_cases e : z = y + 1
      · subst e; exact hg
      · exact h z (by omega)
    · exact h z hz

/-- The days ahead of a month. -/
def cumD (y : Int) : Nat → Int
  | 0 => 0
  | m + 1 => cumD y m + (if m = 0 then 0 else dDays y m)
theorem cumD_13 (y : Int) : cumD y 13 = if leapB y then 366 else 365 := by
  simp [cumD, dDays]; cases leapB y <;> rfl
theorem cumD_12 (y : Int) : cumD y 12 + 31 = if leapB y then 366 else 365 := by
  simp [cumD, dDays]; cases leapB y <;> rfl
/-- The loop over the months: where it stands. -/
theorem findM_spec (y : Int) (yd : Int) (hle : yd ≤ if leapB y then 366 else 365) :
    ∀ (k j : Nat) (d : Int), j + k = 13 → 1 ≤ j → j ≤ 12 → d + cumD y j = yd → 1 ≤ d →
      1 ≤ (findM y k d j).2 ∧ (findM y k d j).2 ≤ 12 ∧ 1 ≤ (findM y k d j).1 ∧ (findM y k d j).1 ≤ dDays y (findM y k d j).2 := by
  intro k
  induction k with
  | zero => intro j d h1 h2 h3; omega
  | succ k ih =>
    intro j d h1 h2 h3 h4 h5
    unfold findM
    split
    · rename_i hg
      have h12 : j ≠ 12 := by
        rintro rfl
        have := cumD_12 y
        have e : dDays y ((12 : Nat) : Int) = 31 := by simp [dDays]
        omega
      have hc : cumD y (j + 1) = cumD y j + dDays y j := by simp [cumD]; omega
      have := ih (j + 1) (d - dDays y j) (by omega) (by omega) (by omega) (by rw [hc]; omega) (by omega)
      exact_mod_cast this
    · exact ⟨by show (1 : Int) ≤ j; omega, by show (j : Int) ≤ 12; omega, h5, by show d ≤ dDays y j; omega⟩
theorem year_bounds (inn : Int) (h0 : 0 ≤ inn) (h1 : inn < 146097) :
    ∃ y0 : Nat, y0 = (min (inn / 365) 399).toNat ∧ y0 ≤ 399 ∧ ((min (inn / 365) 399 : Int) = (y0 : Int)) ∧ findY inn y0 ≤ 399 ∧ dBefore (findY inn y0) ≤ inn ∧
      inn - dBefore (findY inn y0) + 1 ≤ if leapB (findY inn y0) then 366 else 365 := by
  refine ⟨_, rfl, by omega, by omega, ?_⟩
  have hle := findY_le inn h0 (min (inn / 365) 399).toNat
  have hmax := findY_max inn (min (inn / 365) 399).toNat (fun z hz => by
    have hz1 : (min (inn / 365) 399 : Int) < (z : Int) := by omega
    have : dBefore z = 365 * z + ((z : Int) - 1) / 4 - ((z : Int) - 1) / 100 + 1 := by unfold dBefore; rw [if_neg (by omega)]
    rw [this]
    omega)
  generalize hy : findY inn (min (inn / 365) 399).toNat = y at *
  refine ⟨by omega, hle.2, ?_⟩
  have h3 := hmax (y + 1) (by omega)
  have h4 := dBefore_succ (y : Int) (by omega) (by omega)
  push_cast at h3
  omega

end Go.Proofs.YtpiclilonkaffaaDoor
