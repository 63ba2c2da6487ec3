/- The law DigitsWrites: its calls. -/
import Derived.Lib.ParseIntB
import Derived.Test.YtnjocahkiodifaaDoorStampW
import Derived.Test.YtnjocahkiodifaaDoorDigU
namespace Go.Proofs.YtnjocahkiodifaaDoor
open Go.RowKit

theorem parse_dig (M : Nat) (hM : M ≤ 18446744073709551615) (u : Nat) : u ≤ M → ∀ r : List UInt8, Lib.parseUintM M 0 (digL 10 u ++ r) = Lib.parseUintM M u r := by
  induction u using Nat.strongRecOn with
  | ind u ih =>
    intro hu r
    by_cases h : u < 10
    · have e := dch_toNat (d := u) (by omega)
      rw [if_pos h] at e
      rw [digL_small h, List.singleton_append, Lib.parseUintM, e, if_pos (by omega), if_neg (by omega), if_neg (by omega)]
      congr 1; omega
    · have e := dch_toNat (d := u % 10) (by omega)
      rw [if_pos (by omega)] at e
      rw [digL_big (by omega) (by omega), List.append_assoc, ih (u / 10) (by omega) (by omega), List.singleton_append, Lib.parseUintM, e, if_pos (by omega), if_neg (by omega), if_neg (by omega)]
      congr 1; omega
theorem digL_ne (b n : Nat) : digL b n ≠ [] := by simp [digL]
theorem digL_head (u : Nat) : ∃ c r, digL 10 u = c :: r ∧ 48 ≤ c.toNat ∧ c.toNat ≤ 57 := by
  induction u using Nat.strongRecOn with
  | ind u ih =>
    by_cases h : u < 10
    · have e := dch_toNat (d := u) (by omega)
      rw [if_pos h] at e
      exact ⟨_, [], digL_small h, by omega, by omega⟩
    · obtain ⟨c, r, h1, h2, h3⟩ := ih (u / 10) (by omega)
      exact ⟨c, r ++ [dch (u % 10)], by rw [digL_big (by omega) (by omega), h1]; rfl, h2, h3⟩
theorem parse_itoa (n : Int) (h0 : -9223372036854775808 ≤ n) (h1 : n ≤ 9223372036854775807) : Lib.parseIntB 64 (Lib.itoa n) = .ok n := by
  have hp : ∀ u : Nat, u ≤ 18446744073709551615 → Lib.parseUintB 64 (digL 10 u) = .ok u := fun u hu => by
    have := parse_dig (2 ^ 64 - 1) (by decide) u (by omega) []
    rw [List.append_nil] at this
    rw [Lib.parseUintB, if_neg (digL_ne _ _), this]; rfl
  by_cases h : 0 ≤ n
  · rw [itoa_pos h]
    obtain ⟨c, r, e, c1, c2⟩ := digL_head n.toNat
    have hq := hp n.toNat (by omega)
    rw [e] at hq ⊢
    simp only [Lib.parseIntB]
    rw [if_neg (by omega), hq]
    simp only
    rw [if_neg (by omega), if_neg (by omega), if_neg (by omega)]
    congr 1; omega
  · rw [itoa_neg (by omega)]
    have hq := hp n.natAbs (by omega)
    simp only [Lib.parseIntB]
    rw [if_pos (by decide), hq]
    simp only
    rw [if_neg (by simp), if_neg (by omega), if_pos (by decide)]
    congr 1; omega

theorem Read_calls (n : Int) (h0 : -9223372036854775808 ≤ n) (h1 : n ≤ 9223372036854775807) (w : World) (hg : Glob w) :
    Calls Tryd.prog 15 #[.string ⟨(Lib.itoa n).toArray⟩] w fun e w' => e = .returned (.tuple #[.int .i64 n, .bool true]) ∧ Below w.heap.size w w' := by
  have hl := Lib.itoa_length_le n h0 h1
  have HP := fun w => Tryd.strconv_ParseInt_10_at64_ok ⟨(Lib.itoa n).toArray⟩ (by rw [bsize]; omega) n (parse_itoa n h0 h1) w
  have HD := fun w hg => Dec_calls n w hg h0 h1
  have HG := Lib.hid hg
  clear hg hl
  generalize Lib.itoa n = l at *
  go_enter Tryd.func15, Tryd.ntmps15
  go_wp2_with fail
  refine (HP _).mono ?_
  rintro e w1 ⟨rfl, hw⟩
  have hb : Below w.heap.size w w1 := by
    rcases hw with rfl | ⟨t, rfl⟩
    · exact Below.refl _ _
    · exact Lib.bytesWorld_below _ _ _
  clear hw
  go_wp2_with fail
  refine (HD _ (HG.out.below hb)).mono ?_
  rintro e w2 ⟨rfl, hb2⟩
  go_wp2
  go_ret2
  exact ⟨rfl, below_seq hb hb2 (Nat.le_refl _)⟩

theorem awake01_calls (w : World) (hg : Glob w) :
    Calls Tryd.prog 16 #[] w fun e w' => e = .returned (.bool true) ∧ Below w.heap.size w w' := by
  have HD := Dec_calls (-7) w hg (by decide) (by decide)
  rw [show Lib.itoa (-7) = [45, 55] by decide +kernel] at HD
  go_enter Tryd.func16, Tryd.ntmps16
  go_wp2_with fail
  refine HD.mono ?_
  rintro e w1 ⟨rfl, hb⟩
  go_wp2
  go_ret
  exact ⟨rfl, hb⟩

theorem DigitsWrites_calls (n : Int) (m : Nat) (h0 : -9223372036854775808 ≤ n) (h1 : n ≤ 9223372036854775807) (hm : m < 18446744073709551616) (w : World) (hg : Glob w) (hz : Tz w) :
    Calls Tryd.prog 4 #[.int .i64 n, .int .u64 m] w fun e w' => e = .returned (.bool true) ∧ Below w.heap.size w w' := by
  have H1 := fun w hg => Dec_calls n w hg h0 h1
  have H2 := fun w hg => Read_calls n h0 h1 w hg
  have H3 := fun w hg => awake01_calls w hg
  have H4 := fun w => RefDec_calls n h0 h1 w
  have H5 := fun w hz => Oct_calls m hm w hz
  have H6 := fun w => Digits8_calls m hm w
  have H7 := fun w hz => Hex_calls m hm w hz
  have H8 := fun w => Digits16_calls m hm w
  have HG := Lib.hid hg
  have HZ := Lib.hid hz
  clear hg hz
  generalize Lib.itoa n = l at *
  generalize digL 8 m = l8 at *
  generalize digL 16 m = l16 at *
  go_enter Tryd.func4, Tryd.ntmps4
  go_wp2_with fail
  refine (H1 _ HG.out).mono ?_
  rintro e w1 ⟨rfl, b1⟩
  go_wp2_with fail
  refine (H2 _ (HG.out.below b1)).mono ?_
  rintro e w2 ⟨rfl, b2'⟩
  have b2 := below_seq b1 b2' (Nat.le_refl _)
  go_wp2_with fail
  refine (H3 _ (HG.out.below b2)).mono ?_
  rintro e w3 ⟨rfl, b3'⟩
  have b3 := below_seq b2 b3' (Nat.le_refl _)
  go_wp2_with fail
  refine (H4 _).mono ?_
  rintro e w4 ⟨rfl, b4'⟩
  have b4 := below_seq b3 b4' (Nat.le_refl _)
  go_wp2_with fail
  refine (H5 _ (HZ.out.below b4)).mono ?_
  rintro e w5 ⟨rfl, b5'⟩
  have b5 := below_seq b4 b5' (Nat.le_refl _)
  go_wp2_with fail
  refine (H6 _).mono ?_
  rintro e w6 ⟨rfl, b6'⟩
  have b6 := below_seq b5 b6' (Nat.le_refl _)
  go_wp2_with fail
  refine (H7 _ (HZ.out.below b6)).mono ?_
  rintro e w7 ⟨rfl, b7'⟩
  have b7 := below_seq b6 b7' (Nat.le_refl _)
  go_wp2_with fail
  refine (H8 _).mono ?_
  rintro e w8 ⟨rfl, b8'⟩
  have b8 := below_seq b7 b8' (Nat.le_refl _)
  go_wp2
  go_ret
  exact ⟨rfl, b8⟩
end Go.Proofs.YtnjocahkiodifaaDoor
