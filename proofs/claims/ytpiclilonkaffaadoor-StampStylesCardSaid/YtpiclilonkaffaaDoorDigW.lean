/- The reference's digits: their calls. -/
import Derived.Test.YtpiclilonkaffaaDoorBase
import Derived.Lib.ItoaLen
import Derived.Test.YtpiclilonkaffaaDoorDigP
namespace Go.Proofs.YtpiclilonkaffaaDoor
open Go.RowKit

theorem Digits10_calls (n : Nat) (hn : n < 18446744073709551616) (w : World) :
    Calls Tryd.prog 91 #[.int .u64 n, .int .u64 10] w fun e w' => e = .returned (.string ⟨(digL 10 n).toArray⟩) ∧ Below w.heap.size w w' := by
  go_enter Tryd.func91, Tryd.ntmps91
  go_wp2_with fail
  go_loopg [0, 5, 6] 65 (fun g vn vs vi wr => ∃ (k m : Nat) (l : List UInt8), k ≤ 64 ∧ 65 - k ≤ g ∧ m < 2 ^ (64 - k) ∧ vn = .int .u64 m ∧ vs = .string ⟨l.toArray⟩ ∧ vi = .int .i64 k ∧ l.length ≤ k ∧
    Aside (Below w.heap.size w wr ∧ ((k = 0 ∧ m = n ∧ l = []) ∨ (0 < k ∧ dg 10 m ++ l = digL 10 n))))
  case atStart => exact ⟨0, n, [], by omega, by omega, by simpa using hn, rfl, rfl, rfl, by simp, ⟨Below.refl _ _, .inl ⟨rfl, rfl, rfl⟩⟩⟩
  case round =>
    obtain ⟨k, m, l, hk, hgk, hm, rfl, rfl, rfl, hl, HA⟩ := hrel
    have hm' := Lib.hid hm
    have hm2 : m < 18446744073709551616 := Nat.lt_of_lt_of_le hm (Nat.pow_le_pow_right (i := 64 - k) (j := 64) (by omega) (by omega))
    clear hm
    by_cases hgo : k = 0 ∨ 0 < m
    · have hk2 : (k : Int) < 70 := by omega
      rcases Nat.eq_zero_or_pos k with hk0 | hk0
      · subst hk0
        clear hgo
        go_wp2_with fail
        go_quiet (fail)
        rw [dch_at (show m % 10 < 16 by omega), bcat]
        go_wp2_with fail
        go_roundg (gk - 1)
        case measure => omega
        case rel =>
          refine ⟨1, m / 10, [dch (m % 10)] ++ l, by omega, by omega, ?_, by go_num, rfl, by go_num, by rw [List.length_append]; exact Nat.add_le_add_left hl 1, ⟨below_dn HA.out.1 _, .inr ⟨by omega, ?_⟩⟩⟩
          · show m / 10 < 9223372036854775808
            omega
          · obtain ⟨_, rfl, rfl⟩ := HA.out.2.resolve_right (by omega)
            rw [List.append_nil]; rfl
      · have hne : ((k : Int) == 0) = false := by rw [beq_eq_false_iff_ne]; omega
        have hm3 : 0 < m := by omega
        clear hgo
        go_wp2_with fail
        go_quiet (fail)
        rw [dch_at (show m % 10 < 16 by omega), bcat]
        go_wp2_with fail
        go_roundg (gk - 1)
        case measure => omega
        case rel =>
          have hm := hm'.out
          have hk64 : k < 64 := by
            rcases Nat.lt_or_ge k 64 with h | h
            · exact h
            · rw [show 64 - k = 0 by omega] at hm; omega
          refine ⟨k + 1, m / 10, [dch (m % 10)] ++ l, by omega, by omega, ?_, by go_num, rfl, by go_num, by simp; omega, ⟨below_dn HA.out.1 _, .inr ⟨by omega, ?_⟩⟩⟩
          · rw [show 64 - k = (64 - (k + 1)) + 1 by omega, Nat.pow_succ] at hm
            omega
          · obtain ⟨_, h⟩ := HA.out.2.resolve_left (by omega)
            rw [dg_pos (by omega) (by omega), digL, List.append_assoc] at h
            exact h
    · obtain ⟨hk0, hm0⟩ : 0 < k ∧ m = 0 := by omega
      subst hm0
      have hne : ((k : Int) == 0) = false := by rw [beq_eq_false_iff_ne]; omega
      have hm3 : ¬ (0 : Nat) < 0 := by omega
      go_wp2_with fail
      go_ret
      obtain ⟨hb, h | ⟨_, h⟩⟩ := HA.out
      · omega
      · rw [dg_zero] at h
        exact ⟨by rw [← h]; rfl, hb⟩
theorem Digits8_calls (n : Nat) (hn : n < 18446744073709551616) (w : World) :
    Calls Tryd.prog 91 #[.int .u64 n, .int .u64 8] w fun e w' => e = .returned (.string ⟨(digL 8 n).toArray⟩) ∧ Below w.heap.size w w' := by
  go_enter Tryd.func91, Tryd.ntmps91
  go_wp2_with fail
  go_loopg [0, 5, 6] 65 (fun g vn vs vi wr => ∃ (k m : Nat) (l : List UInt8), k ≤ 64 ∧ 65 - k ≤ g ∧ m < 2 ^ (64 - k) ∧ vn = .int .u64 m ∧ vs = .string ⟨l.toArray⟩ ∧ vi = .int .i64 k ∧ l.length ≤ k ∧
    Aside (Below w.heap.size w wr ∧ ((k = 0 ∧ m = n ∧ l = []) ∨ (0 < k ∧ dg 8 m ++ l = digL 8 n))))
  case atStart => exact ⟨0, n, [], by omega, by omega, by simpa using hn, rfl, rfl, rfl, by simp, ⟨Below.refl _ _, .inl ⟨rfl, rfl, rfl⟩⟩⟩
  case round =>
    obtain ⟨k, m, l, hk, hgk, hm, rfl, rfl, rfl, hl, HA⟩ := hrel
    have hm' := Lib.hid hm
    have hm2 : m < 18446744073709551616 := Nat.lt_of_lt_of_le hm (Nat.pow_le_pow_right (i := 64 - k) (j := 64) (by omega) (by omega))
    clear hm
    by_cases hgo : k = 0 ∨ 0 < m
    · have hk2 : (k : Int) < 70 := by omega
      rcases Nat.eq_zero_or_pos k with hk0 | hk0
      · subst hk0
        clear hgo
        go_wp2_with fail
        go_quiet (fail)
        rw [dch_at (show m % 8 < 16 by omega), bcat]
        go_wp2_with fail
        go_roundg (gk - 1)
        case measure => omega
        case rel =>
          refine ⟨1, m / 8, [dch (m % 8)] ++ l, by omega, by omega, ?_, by go_num, rfl, by go_num, by rw [List.length_append]; exact Nat.add_le_add_left hl 1, ⟨below_dn HA.out.1 _, .inr ⟨by omega, ?_⟩⟩⟩
          · show m / 8 < 9223372036854775808
            omega
          · obtain ⟨_, rfl, rfl⟩ := HA.out.2.resolve_right (by omega)
            rw [List.append_nil]; rfl
      · have hne : ((k : Int) == 0) = false := by rw [beq_eq_false_iff_ne]; omega
        have hm3 : 0 < m := by omega
        clear hgo
        go_wp2_with fail
        go_quiet (fail)
        rw [dch_at (show m % 8 < 16 by omega), bcat]
        go_wp2_with fail
        go_roundg (gk - 1)
        case measure => omega
        case rel =>
          have hm := hm'.out
          have hk64 : k < 64 := by
            rcases Nat.lt_or_ge k 64 with h | h
            · exact h
            · rw [show 64 - k = 0 by omega] at hm; omega
          refine ⟨k + 1, m / 8, [dch (m % 8)] ++ l, by omega, by omega, ?_, by go_num, rfl, by go_num, by simp; omega, ⟨below_dn HA.out.1 _, .inr ⟨by omega, ?_⟩⟩⟩
          · rw [show 64 - k = (64 - (k + 1)) + 1 by omega, Nat.pow_succ] at hm
            omega
          · obtain ⟨_, h⟩ := HA.out.2.resolve_left (by omega)
            rw [dg_pos (by omega) (by omega), digL, List.append_assoc] at h
            exact h
    · obtain ⟨hk0, hm0⟩ : 0 < k ∧ m = 0 := by omega
      subst hm0
      have hne : ((k : Int) == 0) = false := by rw [beq_eq_false_iff_ne]; omega
      have hm3 : ¬ (0 : Nat) < 0 := by omega
      go_wp2_with fail
      go_ret
      obtain ⟨hb, h | ⟨_, h⟩⟩ := HA.out
      · omega
      · rw [dg_zero] at h
        exact ⟨by rw [← h]; rfl, hb⟩
theorem Digits16_calls (n : Nat) (hn : n < 18446744073709551616) (w : World) :
    Calls Tryd.prog 91 #[.int .u64 n, .int .u64 16] w fun e w' => e = .returned (.string ⟨(digL 16 n).toArray⟩) ∧ Below w.heap.size w w' := by
  go_enter Tryd.func91, Tryd.ntmps91
  go_wp2_with fail
  go_loopg [0, 5, 6] 65 (fun g vn vs vi wr => ∃ (k m : Nat) (l : List UInt8), k ≤ 64 ∧ 65 - k ≤ g ∧ m < 2 ^ (64 - k) ∧ vn = .int .u64 m ∧ vs = .string ⟨l.toArray⟩ ∧ vi = .int .i64 k ∧ l.length ≤ k ∧
    Aside (Below w.heap.size w wr ∧ ((k = 0 ∧ m = n ∧ l = []) ∨ (0 < k ∧ dg 16 m ++ l = digL 16 n))))
  case atStart => exact ⟨0, n, [], by omega, by omega, by simpa using hn, rfl, rfl, rfl, by simp, ⟨Below.refl _ _, .inl ⟨rfl, rfl, rfl⟩⟩⟩
  case round =>
    obtain ⟨k, m, l, hk, hgk, hm, rfl, rfl, rfl, hl, HA⟩ := hrel
    have hm' := Lib.hid hm
    have hm2 : m < 18446744073709551616 := Nat.lt_of_lt_of_le hm (Nat.pow_le_pow_right (i := 64 - k) (j := 64) (by omega) (by omega))
    clear hm
    by_cases hgo : k = 0 ∨ 0 < m
    · have hk2 : (k : Int) < 70 := by omega
      rcases Nat.eq_zero_or_pos k with hk0 | hk0
      · subst hk0
        clear hgo
        go_wp2_with fail
        go_quiet (fail)
        rw [dch_at (show m % 16 < 16 by omega), bcat]
        go_wp2_with fail
        go_roundg (gk - 1)
        case measure => omega
        case rel =>
          refine ⟨1, m / 16, [dch (m % 16)] ++ l, by omega, by omega, ?_, by go_num, rfl, by go_num, by rw [List.length_append]; exact Nat.add_le_add_left hl 1, ⟨below_dn HA.out.1 _, .inr ⟨by omega, ?_⟩⟩⟩
          · show m / 16 < 9223372036854775808
            omega
          · obtain ⟨_, rfl, rfl⟩ := HA.out.2.resolve_right (by omega)
            rw [List.append_nil]; rfl
      · have hne : ((k : Int) == 0) = false := by rw [beq_eq_false_iff_ne]; omega
        have hm3 : 0 < m := by omega
        clear hgo
        go_wp2_with fail
        go_quiet (fail)
        rw [dch_at (show m % 16 < 16 by omega), bcat]
        go_wp2_with fail
        go_roundg (gk - 1)
        case measure => omega
        case rel =>
          have hm := hm'.out
          have hk64 : k < 64 := by
            rcases Nat.lt_or_ge k 64 with h | h
            · exact h
            · rw [show 64 - k = 0 by omega] at hm; omega
          refine ⟨k + 1, m / 16, [dch (m % 16)] ++ l, by omega, by omega, ?_, by go_num, rfl, by go_num, by simp; omega, ⟨below_dn HA.out.1 _, .inr ⟨by omega, ?_⟩⟩⟩
          · rw [show 64 - k = (64 - (k + 1)) + 1 by omega, Nat.pow_succ] at hm
            omega
          · obtain ⟨_, h⟩ := HA.out.2.resolve_left (by omega)
            rw [dg_pos (by omega) (by omega), digL, List.append_assoc] at h
            exact h
    · obtain ⟨hk0, hm0⟩ : 0 < k ∧ m = 0 := by omega
      subst hm0
      have hne : ((k : Int) == 0) = false := by rw [beq_eq_false_iff_ne]; omega
      have hm3 : ¬ (0 : Nat) < 0 := by omega
      go_wp2_with fail
      go_ret
      obtain ⟨hb, h | ⟨_, h⟩⟩ := HA.out
      · omega
      · rw [dg_zero] at h
        exact ⟨by rw [← h]; rfl, hb⟩
theorem itoa_pos {n : Int} (h : 0 ≤ n) : Lib.itoa n = digL 10 n.toNat := by rw [Lib.itoa, if_neg (by omega), decDigits_eq]
theorem itoa_neg {n : Int} (h : n < 0) : Lib.itoa n = 45 :: digL 10 n.natAbs := by rw [Lib.itoa, if_pos h, decDigits_eq]

theorem RefDec_calls (n : Int) (h0 : -9223372036854775808 ≤ n) (h1 : n ≤ 9223372036854775807) (w : World) :
    Calls Tryd.prog 63 #[.int .i64 n] w fun e w' => e = .returned (.string ⟨(Lib.itoa n).toArray⟩) ∧ Below w.heap.size w w' := by
  by_cases h : 0 ≤ n
  · obtain ⟨m, rfl⟩ := Int.eq_ofNat_of_zero_le h
    rw [itoa_pos h]
    have H := fun w => Digits10_calls m (by omega) w
    go_enter Tryd.func63, Tryd.ntmps63
    go_wp2_with fail
    refine (H _).mono ?_
    rintro e w1 ⟨rfl, hb⟩
    go_wp2
    go_ret
    exact ⟨rfl, hb⟩
  · have h2 : n < 0 := by omega
    have hl := Lib.itoa_length_le n h0 h1
    rw [itoa_neg h2, List.length_cons] at hl
    rw [itoa_neg h2]
    have H := fun w => Digits10_calls n.natAbs (by omega) w
    rw [show ((n.natAbs : Nat) : Int) = -(n + 1) + 1 by omega] at H
    generalize digL 10 n.natAbs = l at *
    go_enter Tryd.func63, Tryd.ntmps63
    go_wp2_with fail
    refine (H _).mono ?_
    rintro e w1 ⟨rfl, hb⟩
    go_wp2
    go_ret
    refine ⟨congrArg (fun b => Ending.returned (Value.string b)) (?_ : (⟨[45].toArray⟩ : ByteArray) ++ (⟨l.toArray⟩ : ByteArray) = _), hb⟩
    rw [bcat]; rfl
end Go.Proofs.YtpiclilonkaffaaDoor