/- The plain functions of layer 5: times written. -/
import Derived.Lib.Itoa
import Derived.Lib.ItoaLen
import Derived.Lib.Repeat
import Derived.Test.YtpiclilonkaffaaDoorDateP
namespace Go.Proofs.YtpiclilonkaffaaDoor
open Go

def months : List UInt8 := [74,97,110,70,101,98,77,97,114,65,112,114,77,97,121,74,117,110,74,117,108,65,117,103,83,101,112,79,99,116,78,111,118,68,101,99]
def weekdays : List UInt8 := [83,117,110,77,111,110,84,117,101,87,101,100,84,104,117,70,114,105,83,97,116]

/-- A number in so many digits, with a byte ahead. -/
def padL (n : Int) (size : Nat) (c : UInt8) : List UInt8 := List.replicate (size - (Lib.itoa n).length) c ++ Lib.itoa n
def zoneL (offset : Int) : List UInt8 :=
  let o := clampOff offset
  if o < 0 then 45 :: (padL (-o / 3600) 2 48 ++ padL (-o / 60 % 60) 2 48) else 43 :: (padL (o / 3600) 2 48 ++ padL (o / 60 % 60) 2 48)

/-- The directives but for F and T. -/
def dirS (time offset : Int) (c : UInt8) : Option (List UInt8) :=
  let d := dOf time offset
  if c = 89 then some (Lib.itoa d.year)
  else if c = 109 then some (padL d.month 2 48)
  else if c = 100 then some (padL d.day 2 48)
  else if c = 101 then some (padL d.day 2 32)
  else if c = 72 then some (padL d.hour 2 48)
  else if c = 77 then some (padL d.minute 2 48)
  else if c = 83 then some (padL d.second 2 48)
  else if c = 106 then some (padL d.yearday 3 48)
  else if c = 98 then some ((months.drop (3 * (d.month.toNat - 1))).take 3)
  else if c = 97 then some ((weekdays.drop (3 * d.weekday.toNat)).take 3)
  else if c = 115 then some (Lib.itoa time)
  else if c = 122 then some (zoneL offset)
  else if c = 37 then some [37]
  else none

/-- A text with its directives written. -/
def fmtWith (dir : UInt8 → Option (List UInt8)) : List UInt8 → List UInt8
  | [] => []
  | [c] => [c]
  | c :: c2 :: rest =>
    if c = 37 then match dir c2 with
      | some s => s ++ fmtWith dir rest
      | none => c :: fmtWith dir (c2 :: rest)
    else c :: fmtWith dir (c2 :: rest)

def fmtF : List UInt8 := [37, 89, 45, 37, 109, 45, 37, 100]
def fmtT : List UInt8 := [37, 72, 58, 37, 77, 58, 37, 83]
def dirL (time offset : Int) (c : UInt8) : Option (List UInt8) :=
  if c = 70 then some (fmtWith (dirS time offset) fmtF) else if c = 84 then some (fmtWith (dirS time offset) fmtT) else dirS time offset c
def fmtL (f : List UInt8) (time offset : Int) : List UInt8 := fmtWith (dirL time offset) f

theorem fmtWith_cons2 (dir : UInt8 → Option (List UInt8)) (c c2 : UInt8) (rest : List UInt8) : fmtWith dir (c :: c2 :: rest) =
    if c = 37 then match dir c2 with
      | some s => s ++ fmtWith dir rest
      | none => c :: fmtWith dir (c2 :: rest)
    else c :: fmtWith dir (c2 :: rest) := by rw [fmtWith]

/-- Two formats one behind the other. -/
theorem fmtWith_append (dir : UInt8 → Option (List UInt8)) (g : List UInt8) : ∀ f : List UInt8, f.getLast? ≠ some 37 → fmtWith dir (f ++ g) = fmtWith dir f ++ fmtWith dir g
  | [], _ => rfl
  | [c], h => by
    have hc : c ≠ 37 := by simpa using h
    cases g with
    | nil => rfl
    | cons x g => simp [fmtWith, hc]
  | c :: c2 :: rest, h => by
    have h2 : (c2 :: rest).getLast? ≠ some 37 := by simpa [List.getLast?_cons_cons] using h
    have e2 := fmtWith_append dir g (c2 :: rest) h2
    have hr : rest.getLast? ≠ some 37 := by
      cases rest with
      | nil => simp
      | cons x r => simpa [List.getLast?_cons_cons] using h2
    have e3 := fmtWith_append dir g rest hr
    simp only [List.cons_append] at e2 ⊢
    rw [fmtWith_cons2, fmtWith_cons2]
    by_cases hc : c = 37
    · rw [if_pos hc, if_pos hc]
      cases dir c2 with
      | some s => simp only; rw [e3, List.append_assoc]
      | none => simp only; rw [e2, List.cons_append]
    · rw [if_neg hc, if_neg hc, e2, List.cons_append]

/-! ### Sizes -/
theorem padL_length (n : Int) (size : Nat) (c : UInt8) (h0 : -9223372036854775808 ≤ n) (h1 : n ≤ 9223372036854775807) : (padL n size c).length ≤ size + 21 := by
  have := Lib.itoa_length_le n h0 h1
  simp [padL]; omega
theorem dOf_bounds (t o : Int) (h1 : -9223372036854775808 ≤ t) (h2 : t ≤ 9223372036854775807) :
    -400000000000 ≤ (dOf t o).year ∧ (dOf t o).year ≤ 400000000000 ∧ 1 ≤ (dOf t o).month ∧ (dOf t o).month ≤ 12 ∧ 1 ≤ (dOf t o).day ∧ (dOf t o).day ≤ 31 ∧
    0 ≤ (dOf t o).hour ∧ (dOf t o).hour ≤ 23 ∧ 0 ≤ (dOf t o).minute ∧ (dOf t o).minute ≤ 59 ∧ 0 ≤ (dOf t o).second ∧ (dOf t o).second ≤ 59 ∧
    0 ≤ (dOf t o).weekday ∧ (dOf t o).weekday ≤ 6 ∧ 1 ≤ (dOf t o).yearday ∧ (dOf t o).yearday ≤ 366 := by
  have hd0 : -106751991167302 ≤ (t + clampOff o) / 86400 ∧ (t + clampOff o) / 86400 ≤ 106751991167302 := by unfold clampOff; omega
  have hs0 : 0 ≤ (t + clampOff o) % 86400 ∧ (t + clampOff o) % 86400 < 86400 := by omega
  unfold dOf
  dsimp only
  generalize (t + clampOff o) / 86400 = day at *
  generalize (t + clampOff o) % 86400 = sec at *
  have hi0 : 0 ≤ (day + 719528) % 146097 := by omega
  have hi1 : (day + 719528) % 146097 < 146097 := by omega
  have hc : -800000000 ≤ (day + 719528) / 146097 ∧ (day + 719528) / 146097 ≤ 800000000 := by omega
  generalize (day + 719528) / 146097 = cyc at *
  generalize (day + 719528) % 146097 = inn at *
  obtain ⟨y0, e0, y1, y2, y3, y4, y5⟩ := year_bounds inn hi0 hi1
  rw [← e0]
  generalize findY inn y0 = R at *
  have hm := findM_spec (R : Int) (inn - dBefore R + 1) y5 12 1 (inn - dBefore R + 1) rfl (Nat.le_refl _) (by omega) (by simp [cumD]) (by omega)
  have hl := leapB_days (R : Int) (findM R 12 (inn - dBefore R + 1) 1).2
  simp only [Int.natCast_one] at hm
  have h366 : inn - dBefore R + 1 ≤ 366 := by split at y5 <;> omega
  refine ⟨by omega, by omega, hm.1, hm.2.1, hm.2.2.1, by omega, by omega, by omega, by omega, by omega, by omega, by omega, by omega, by omega, by omega, by omega⟩
theorem zoneL_length (o : Int) : (zoneL o).length ≤ 50 := by
  have hc : -86400 ≤ clampOff o ∧ clampOff o ≤ 86400 := by unfold clampOff; omega
  unfold zoneL
  generalize clampOff o = c at *
  dsimp only
  split
  · have h1 := padL_length (-c / 3600) 2 48 (by omega) (by omega)
    have h2 := padL_length (-c / 60 % 60) 2 48 (by omega) (by omega)
    simp; omega
  · have h1 := padL_length (c / 3600) 2 48 (by omega) (by omega)
    have h2 := padL_length (c / 60 % 60) 2 48 (by omega) (by omega)
    simp; omega
theorem ite_some {α : Type} {p : Prop} [Decidable p] {a b : Option α} {s : α} (h : (if p then a else b) = some s) : (p ∧ a = some s) ∨ (¬ p ∧ b = some s) := by
  by_cases hp : p
  · rw [if_pos hp] at h; exact .inl ⟨hp, h⟩
  · rw [if_neg hp] at h; exact .inr ⟨hp, h⟩
theorem dirS_length (t o : Int) (h1 : -9223372036854775808 ≤ t) (h2 : t ≤ 9223372036854775807) (c : UInt8) (s : List UInt8) (h : dirS t o c = some s) : s.length ≤ 50 := by
  obtain ⟨a1, a2, a3, a4, a5, a6, a7, a8, a9, a10, a11, a12, a13, a14, a15, a16⟩ := dOf_bounds t o h1 h2
  have i1 := Lib.itoa_length_le (dOf t o).year (by omega) (by omega)
  have i2 := Lib.itoa_length_le t h1 h2
  have p1 := padL_length (dOf t o).month 2 48 (by omega) (by omega)
  have p2 := padL_length (dOf t o).day 2 48 (by omega) (by omega)
  have p3 := padL_length (dOf t o).day 2 32 (by omega) (by omega)
  have p4 := padL_length (dOf t o).hour 2 48 (by omega) (by omega)
  have p5 := padL_length (dOf t o).minute 2 48 (by omega) (by omega)
  have p6 := padL_length (dOf t o).second 2 48 (by omega) (by omega)
  have p7 := padL_length (dOf t o).yearday 3 48 (by omega) (by omega)
  have z := zoneL_length o
  unfold dirS at h
  dsimp only at h
  rcases ite_some h with ⟨_, h⟩ | ⟨_, h⟩
  · cases h; omega
  rcases ite_some h with ⟨_, h⟩ | ⟨_, h⟩
  · cases h; omega
  rcases ite_some h with ⟨_, h⟩ | ⟨_, h⟩
  · cases h; omega
  rcases ite_some h with ⟨_, h⟩ | ⟨_, h⟩
  · cases h; omega
  rcases ite_some h with ⟨_, h⟩ | ⟨_, h⟩
  · cases h; omega
  rcases ite_some h with ⟨_, h⟩ | ⟨_, h⟩
  · cases h; omega
  rcases ite_some h with ⟨_, h⟩ | ⟨_, h⟩
  · cases h; omega
  rcases ite_some h with ⟨_, h⟩ | ⟨_, h⟩
  · cases h; omega
  rcases ite_some h with ⟨_, h⟩ | ⟨_, h⟩
  · cases h; simp only [List.length_take]; omega
  rcases ite_some h with ⟨_, h⟩ | ⟨_, h⟩
  · cases h; simp only [List.length_take]; omega
  rcases ite_some h with ⟨_, h⟩ | ⟨_, h⟩
  · cases h; omega
  rcases ite_some h with ⟨_, h⟩ | ⟨_, h⟩
  · cases h; omega
  rcases ite_some h with ⟨_, h⟩ | ⟨_, h⟩
  · cases h; simp
  · cases h
theorem fmtWith_length (dir : UInt8 → Option (List UInt8)) (K : Nat) (hK : 1 ≤ K) (hd : ∀ c s, dir c = some s → s.length ≤ K) : ∀ f : List UInt8, (fmtWith dir f).length ≤ K * f.length
  | [] => by simp [fmtWith]
  | [c] => by simp [fmtWith]; omega
  | c :: c2 :: rest => by
    have e2 := fmtWith_length dir K hK hd (c2 :: rest)
    have e3 := fmtWith_length dir K hK hd rest
    simp only [List.length_cons, Nat.mul_add, Nat.mul_one] at e2 ⊢
    rw [fmtWith_cons2]
    split
    · cases hs : dir c2 with
      | some s => have := hd _ _ hs; simp; omega
      | none => simp; omega
    · simp; omega
theorem dirL_length (t o : Int) (h1 : -9223372036854775808 ≤ t) (h2 : t ≤ 9223372036854775807) (c : UInt8) (s : List UInt8) (h : dirL t o c = some s) : s.length ≤ 400 := by
  unfold dirL at h
  split at h
  · cases h; have := fmtWith_length (dirS t o) 50 (by omega) (dirS_length t o h1 h2) fmtF; simpa [fmtF] using this
  · split at h
    · cases h; have := fmtWith_length (dirS t o) 50 (by omega) (dirS_length t o h1 h2) fmtT; simpa [fmtT] using this
    · have := dirS_length t o h1 h2 c s h; omega
end Go.Proofs.YtpiclilonkaffaaDoor
