/- Recent and Style, of the program and of the reference: their calls. -/
import Derived.Test.YtpiclilonkaffaaDoorStampV
import Derived.Test.YtpiclilonkaffaaDoorStampI
namespace Go.Proofs.YtpiclilonkaffaaDoor
open Go.RowKit

theorem RRecent_calls (t n : Int) (w : World) (h1 : -9223372036854775808 ≤ t) (h2 : t ≤ 9223372036854775807) (h3 : -9223372036854775808 ≤ n) (h4 : n ≤ 9223372036854775807) :
    Calls Tryd.prog 9 #[.int .i64 t, .int .i64 n] w fun e w' => e = .returned (.bool (recentB t n)) ∧ w' = w := by
  unfold recentB
  by_cases h : t ≤ n
  · rw [decide_eq_true h, Bool.true_and]
    by_cases hs : t < 0 ∧ 0 ≤ n
    · obtain ⟨ha, hb⟩ := hs
      by_cases hc : -15778476 < t
      · by_cases hd : n < 15778476
        · go_enter Tryd.func9, Tryd.ntmps9
          go_wp2_with fail
          go_ret
          exact ⟨rfl, rfl⟩
        · rw [decide_eq_false (by omega)]
          go_enter Tryd.func9, Tryd.ntmps9
          go_wp2_with fail
          go_ret
          exact ⟨rfl, rfl⟩
      · rw [decide_eq_false (by omega)]
        go_enter Tryd.func9, Tryd.ntmps9
        go_wp2_with fail
        go_ret
        exact ⟨rfl, rfl⟩
    · by_cases ha : t < 0
      · have hb : ¬ 0 ≤ n := fun h => hs ⟨ha, h⟩
        clear hs
        go_enter Tryd.func9, Tryd.ntmps9
        go_wp2_with fail
        go_ret
        exact ⟨rfl, rfl⟩
      · clear hs
        go_enter Tryd.func9, Tryd.ntmps9
        go_wp2_with fail
        go_ret
        exact ⟨rfl, rfl⟩
  · rw [decide_eq_false h, Bool.false_and]
    go_enter Tryd.func9, Tryd.ntmps9
    go_wp2_with fail
    go_ret
    exact ⟨rfl, rfl⟩

/-- The format of a style. -/
def styleF (style : Int) (own : List UInt8) (rec : Bool) : Option (List UInt8) :=
  if style = 0 then some (if rec then [37, 98, 32, 37, 101, 32, 37, 72, 58, 37, 77] else [37, 98, 32, 37, 101, 32, 32, 37, 89])
  else if style = 1 then some [37, 89, 45, 37, 109, 45, 37, 100, 32, 37, 72, 58, 37, 77]
  else if style = 2 then some [37, 89, 45, 37, 109, 45, 37, 100, 32, 37, 72, 58, 37, 77, 58, 37, 83, 32, 37, 122]
  else if style = 3 then some own
  else none
def styleL (style : Int) (own : List UInt8) (t n o : Int) : List UInt8 := match styleF style own (recentB t n) with | some f => fmtL f t o | none => []
theorem fmt_one (t o : Int) : fmtL [37, 70, 32, 37, 72, 58, 37, 77] t o = fmtL [37, 89, 45, 37, 109, 45, 37, 100, 32, 37, 72, 58, 37, 77] t o := by
  simp [fmtL, fmtWith, dirL, fmtF, dirS]
theorem fmt_two (t o : Int) : fmtL [37, 70, 32, 37, 84, 32, 37, 122] t o = fmtL [37, 89, 45, 37, 109, 45, 37, 100, 32, 37, 72, 58, 37, 77, 58, 37, 83, 32, 37, 122] t o := by
  simp [fmtL, fmtWith, dirL, fmtF, fmtT, dirS]

set_option maxRecDepth 20000 in
set_option maxHeartbeats 1000000 in
theorem Style_calls (style : Int) (own : List UInt8) (t n o : Int) (hl : own.length ≤ 2147483647) (w : World) (hg : Glob w) (h1 : -9223372036854775808 ≤ t) (h2 : t ≤ 9223372036854775807) (h3 : -9223372036854775808 ≤ n) (h4 : n ≤ 9223372036854775807) :
    Calls Tryd.prog 10 #[.int .i64 style, .string ⟨own.toArray⟩, .int .i64 t, .int .i64 n, .int .i64 o] w fun e w' => e = .returned (.string ⟨(styleL style own t n o).toArray⟩) ∧ Below w.heap.size w w' := by
  have HF := fun f (hf : f.length ≤ 2147483647) => Format_calls f t o hf w hg h1 h2
  have HR := fun w => Recent_calls t n w h1 h2 h3 h4
  have hg := Lib.hid hg
  unfold styleL styleF
  by_cases c0 : style = 0
  · subst c0
    rw [if_pos rfl]
    cases hb : recentB t n with
    | true =>
      rw [hb] at HR
      have H := HF [37, 98, 32, 37, 101, 32, 37, 72, 58, 37, 77] (by decide)
      rw [if_pos rfl]
      show Calls _ _ _ _ (fun e w' => e = .returned (.string ⟨(fmtL [37, 98, 32, 37, 101, 32, 37, 72, 58, 37, 77] t o).toArray⟩) ∧ Below w.heap.size w w')
      clear hb HF
      go_enter Tryd.func10, Tryd.ntmps10
      go_wp2_with fail
      refine (HR _).mono ?_
      rintro e w1 ⟨rfl, rfl⟩
      go_wp2_with fail
      refine H.mono ?_
      rintro e w2 ⟨rfl, hb2⟩
      go_wp2
      go_ret
      exact ⟨rfl, hb2⟩
    | false =>
      rw [hb] at HR
      have H := HF [37, 98, 32, 37, 101, 32, 32, 37, 89] (by decide)
      rw [if_neg (by decide)]
      show Calls _ _ _ _ (fun e w' => e = .returned (.string ⟨(fmtL [37, 98, 32, 37, 101, 32, 32, 37, 89] t o).toArray⟩) ∧ Below w.heap.size w w')
      clear hb HF
      go_enter Tryd.func10, Tryd.ntmps10
      go_wp2_with fail
      refine (HR _).mono ?_
      rintro e w1 ⟨rfl, rfl⟩
      go_wp2_with fail
      refine H.mono ?_
      rintro e w2 ⟨rfl, hb2⟩
      go_wp2
      go_ret
      exact ⟨rfl, hb2⟩
  · rw [if_neg c0]
    have b0 : (style == 0) = false := by simpa using c0
    clear c0
    by_cases c1 : style = 1
    · subst c1
      rw [if_pos rfl]
      have H := HF [37, 89, 45, 37, 109, 45, 37, 100, 32, 37, 72, 58, 37, 77] (by decide)
      show Calls _ _ _ _ (fun e w' => e = .returned (.string ⟨(fmtL [37, 89, 45, 37, 109, 45, 37, 100, 32, 37, 72, 58, 37, 77] t o).toArray⟩) ∧ Below w.heap.size w w')
      clear HF HR
      go_enter Tryd.func10, Tryd.ntmps10
      go_wp2_with fail
      refine H.mono ?_
      rintro e w2 ⟨rfl, hb2⟩
      go_wp2
      go_ret
      exact ⟨rfl, hb2⟩
    · rw [if_neg c1]
      have b1 : (style == 1) = false := by simpa using c1
      clear c1
      by_cases c2 : style = 2
      · subst c2
        rw [if_pos rfl]
        have H := HF [37, 89, 45, 37, 109, 45, 37, 100, 32, 37, 72, 58, 37, 77, 58, 37, 83, 32, 37, 122] (by decide)
        show Calls _ _ _ _ (fun e w' => e = .returned (.string ⟨(fmtL [37, 89, 45, 37, 109, 45, 37, 100, 32, 37, 72, 58, 37, 77, 58, 37, 83, 32, 37, 122] t o).toArray⟩) ∧ Below w.heap.size w w')
        clear HF HR
        go_enter Tryd.func10, Tryd.ntmps10
        go_wp2_with fail
        refine H.mono ?_
        rintro e w2 ⟨rfl, hb2⟩
        go_wp2
        go_ret
        exact ⟨rfl, hb2⟩
      · rw [if_neg c2]
        have b2 : (style == 2) = false := by simpa using c2
        clear c2
        by_cases c3 : style = 3
        · subst c3
          rw [if_pos rfl]
          have H := HF own hl
          show Calls _ _ _ _ (fun e w' => e = .returned (.string ⟨(fmtL own t o).toArray⟩) ∧ Below w.heap.size w w')
          clear HF HR
          go_enter Tryd.func10, Tryd.ntmps10
          go_wp2_with fail
          refine H.mono ?_
          rintro e w2 ⟨rfl, hb2⟩
          go_wp2
          go_ret
          exact ⟨rfl, hb2⟩
        · rw [if_neg c3]
          have b3 : (style == 3) = false := by simpa using c3
          clear c3 HF HR
          go_enter Tryd.func10, Tryd.ntmps10
          go_wp2_with fail
          go_ret
          exact ⟨rfl, Below.refl _ _⟩
end Go.Proofs.YtpiclilonkaffaaDoor
