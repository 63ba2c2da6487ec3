/- The reference's Style, and the law StampStyles: their calls. -/
import Derived.Test.YtpiclilonkaffaaDoorStampK
namespace Go.Proofs.YtpiclilonkaffaaDoor
open Go.RowKit

theorem style_index (own : List UInt8) (i : Nat) (j : Int) (hj : j = (i : Int)) (v : Value) (hi : i < 4) (hv : (#[Value.string ⟨#[37, 98, 32, 37, 101, 32, 32, 37, 89]⟩, .string ⟨#[37, 70, 32, 37, 72, 58, 37, 77]⟩, .string ⟨#[37, 70, 32, 37, 84, 32, 37, 122]⟩, .string ⟨own.toArray⟩] : Array Value)[i]? = some v) (W : World) :
    (Instr.index 64 (.agg #[Value.string ⟨#[37, 98, 32, 37, 101, 32, 32, 37, 89]⟩, .string ⟨#[37, 70, 32, 37, 72, 58, 37, 77]⟩, .string ⟨#[37, 70, 32, 37, 84, 32, 37, 122]⟩, .string ⟨own.toArray⟩]) (.int .i64 j)).run Tryd.prog W = .ok v W :=
  hj ▸ index_arr Tryd.underlying64 (fun w => by kernel_rfl) (fun w => by kernel_rfl) _ i v hi hv .i64 W

set_option maxRecDepth 20000 in
set_option maxHeartbeats 1000000 in
theorem RStyle_calls (style : Int) (own : List UInt8) (t n o : Int) (hl : own.length ≤ 2147483647) (w : World) (h1 : -9223372036854775808 ≤ t) (h2 : t ≤ 9223372036854775807) (h3 : -9223372036854775808 ≤ n) (h4 : n ≤ 9223372036854775807)
    (ho1 : -9223372036854775808 ≤ o) (ho2 : o ≤ 9223372036854775807) :
    Calls Tryd.prog 11 #[.int .i64 style, .string ⟨own.toArray⟩, .int .i64 t, .int .i64 n, .int .i64 o] w fun e w' => e = .returned (.string ⟨(styleL style own t n o).toArray⟩) ∧ Below w.heap.size w w' := by
  have HF := fun f (hf : f.length ≤ 2147483647) => RFormat_calls f t o hf w h1 h2 ho1 ho2
  have HR := fun w => RRecent_calls t n w h1 h2 h3 h4
  unfold styleL styleF
  by_cases c0 : style = 0
  · subst c0
    have I0 := fun W => style_index own 0 0 rfl _ (by decide) rfl W
    rw [if_pos rfl]
    cases hb : recentB t n with
    | true =>
      rw [hb] at HR
      have H := HF [37, 98, 32, 37, 101, 32, 37, 72, 58, 37, 77] (by decide)
      rw [if_pos rfl]
      show Calls _ _ _ _ (fun e w' => e = .returned (.string ⟨(fmtL [37, 98, 32, 37, 101, 32, 37, 72, 58, 37, 77] t o).toArray⟩) ∧ Below w.heap.size w w')
      clear hb HF
      go_enter Tryd.func11, Tryd.ntmps11
      go_wp2_with fail
      refine (HR _).mono ?_
      rintro e w1 ⟨rfl, rfl⟩
      go_wp2_with fail
      refine H.mono ?_
      rintro e w2 ⟨rfl, hb2⟩
      go_wp2
      go_ret
      exact ⟨rfl, hb2⟩
    | false =>
      rw [hb] at HR
      have H := HF [37, 98, 32, 37, 101, 32, 32, 37, 89] (by decide)
      rw [if_neg (by decide)]
      show Calls _ _ _ _ (fun e w' => e = .returned (.string ⟨(fmtL [37, 98, 32, 37, 101, 32, 32, 37, 89] t o).toArray⟩) ∧ Below w.heap.size w w')
      clear hb HF
      go_enter Tryd.func11, Tryd.ntmps11
      go_wp2_with fail
      refine (HR _).mono ?_
      rintro e w1 ⟨rfl, rfl⟩
      go_wp2_with fail
      refine H.mono ?_
      rintro e w2 ⟨rfl, hb2⟩
      go_wp2
      go_ret
      exact ⟨rfl, hb2⟩
  · rw [if_neg c0]
    have b0 : (style == 0) = false := by simpa using c0
    clear c0 HR
    by_cases c1 : style = 1
    · subst c1
      have I1 := fun W => style_index own 1 1 rfl _ (by decide) rfl W
      rw [if_pos rfl]
      have H := HF [37, 70, 32, 37, 72, 58, 37, 77] (by decide)
      rw [fmt_one] at H
      show Calls _ _ _ _ (fun e w' => e = .returned (.string ⟨(fmtL [37, 89, 45, 37, 109, 45, 37, 100, 32, 37, 72, 58, 37, 77] t o).toArray⟩) ∧ Below w.heap.size w w')
      clear HF
      go_enter Tryd.func11, Tryd.ntmps11
      go_wp2_with fail
      refine H.mono ?_
      rintro e w2 ⟨rfl, hb2⟩
      go_wp2
      go_ret
      exact ⟨rfl, hb2⟩
    · rw [if_neg c1]
      have b1 : (style == 1) = false := by simpa using c1
      by_cases c2 : style = 2
      · subst c2
        have I2 := fun W => style_index own 2 2 rfl _ (by decide) rfl W
        rw [if_pos rfl]
        have H := HF [37, 70, 32, 37, 84, 32, 37, 122] (by decide)
        rw [fmt_two] at H
        show Calls _ _ _ _ (fun e w' => e = .returned (.string ⟨(fmtL [37, 89, 45, 37, 109, 45, 37, 100, 32, 37, 72, 58, 37, 77, 58, 37, 83, 32, 37, 122] t o).toArray⟩) ∧ Below w.heap.size w w')
        clear HF c1
        go_enter Tryd.func11, Tryd.ntmps11
        go_wp2_with fail
        refine H.mono ?_
        rintro e w2 ⟨rfl, hb2⟩
        go_wp2
        go_ret
        exact ⟨rfl, hb2⟩
      · rw [if_neg c2]
        by_cases c3 : style = 3
        · subst c3
          have I3 := fun W => style_index own 3 3 rfl _ (by decide) rfl W
          rw [if_pos rfl]
          have H := HF own hl
          show Calls _ _ _ _ (fun e w' => e = .returned (.string ⟨(fmtL own t o).toArray⟩) ∧ Below w.heap.size w w')
          clear HF c1 c2
          go_enter Tryd.func11, Tryd.ntmps11
          go_wp2_with fail
          refine H.mono ?_
          rintro e w2 ⟨rfl, hb2⟩
          go_wp2
          go_ret
          exact ⟨rfl, hb2⟩
        · rw [if_neg c3]
          have b2 : (style == 0) = false := b0
          rcases Int.lt_or_le style 0 with hlt | hge
          · clear HF c1 c2 c3 b0 b1 b2
            go_enter Tryd.func11, Tryd.ntmps11
            go_wp2
            go_ret
            exact ⟨rfl, Below.refl _ _⟩
          · have hb0 : style ≠ 0 := by simpa using b0
            have h3 : 3 < style := by omega
            clear HF c1 c2 c3 b0 b1 b2 hb0
            go_enter Tryd.func11, Tryd.ntmps11
            go_wp2
            go_ret
            exact ⟨rfl, Below.refl _ _⟩
end Go.Proofs.YtpiclilonkaffaaDoor
