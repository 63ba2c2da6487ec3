/- Numbers written in a base: the plain functions. -/
import Derived.Lib.ItoaNum
import Derived.Lib.Itoa
namespace Go.Proofs.YtpiclilonkaffaaDoor
open Go

def dch (d : Nat) : UInt8 := UInt8.ofNat (if d < 10 then 48 + d else 87 + d)
/-- The digits of a number, none for 0. -/
def dg (b n : Nat) : List UInt8 := if _h : n = 0 ∨ b < 2 then [] else dg b (n / b) ++ [dch (n % b)]
termination_by n
decreasing_by exact Nat.div_lt_self (by omega) (by omega)
/-- The digits of a number, one for 0. -/
def digL (b n : Nat) : List UInt8 := dg b (n / b) ++ [dch (n % b)]

theorem dg_zero (b : Nat) : dg b 0 = [] := by rw [dg, dif_pos (.inl rfl)]
theorem dg_pos {b n : Nat} (hb : 2 ≤ b) (hn : n ≠ 0) : dg b n = digL b n := by rw [dg, dif_neg (by omega)]; rfl
theorem digL_small {b n : Nat} (hn : n < b) : digL b n = [dch n] := by
  rw [digL, Nat.div_eq_of_lt hn, dg_zero, Nat.mod_eq_of_lt hn]; rfl
theorem digL_big {b n : Nat} (hb : 2 ≤ b) (hn : b ≤ n) : digL b n = digL b (n / b) ++ [dch (n % b)] := by
  rw [digL, dg_pos hb (Nat.ne_of_gt (Nat.div_pos hn (by omega)))]
theorem dch_dec {d : Nat} (h : d < 10) : dch d = UInt8.ofNat (48 + d) := by rw [dch, if_pos h]
theorem decDigits_eq (n : Nat) : Lib.decDigits n = digL 10 n := by
  induction n using Nat.strongRecOn with
  | ind n ih =>
    by_cases h : n < 10
    · rw [Lib.decDigits_one h, digL_small h, dch_dec h]
    · rw [Lib.decDigits, dif_neg h, digL_big (by omega) (by omega), ih (n / 10) (by omega), dch_dec (by omega)]
theorem dch_toNat {d : Nat} (h : d < 16) : (dch d).toNat = if d < 10 then 48 + d else 87 + d := by
  unfold dch
  rw [UInt8.toNat_ofNat']
  split <;> omega
theorem bsize (l : List UInt8) : (⟨l.toArray⟩ : ByteArray).size = l.length := by simp [ByteArray.size]
theorem bcat (a b : List UInt8) : (⟨a.toArray⟩ : ByteArray) ++ ⟨b.toArray⟩ = ⟨(a ++ b).toArray⟩ := by
  apply ByteArray.ext
  simp
theorem dch_at {d : Nat} (h : d < 16) : (⟨#[48, 49, 50, 51, 52, 53, 54, 55, 56, 57, 97, 98, 99, 100, 101, 102]⟩ : ByteArray).extract d (d + 1) = ⟨[dch d].toArray⟩ := by
  have : ∀ i : Fin 16, (⟨#[48, 49, 50, 51, 52, 53, 54, 55, 56, 57, 97, 98, 99, 100, 101, 102]⟩ : ByteArray).extract i.val (i.val + 1) = ⟨[dch i.val].toArray⟩ := by decide +kernel
  exact this ⟨d, h⟩
end Go.Proofs.YtpiclilonkaffaaDoor
