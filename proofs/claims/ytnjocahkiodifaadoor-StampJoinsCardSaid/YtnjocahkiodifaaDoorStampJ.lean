/- stamp.Recent, the law's awake, and the law StampJoins: their calls. -/
import Derived.Test.YtnjocahkiodifaaDoorStampF
namespace Go.Proofs.YtnjocahkiodifaaDoor
open Go.RowKit

def recentB (t n : Int) : Bool := decide (t ≤ n) && decide (n - t < 15778476)

theorem Recent_calls (t n : Int) (w : World) (h1 : -9223372036854775808 ≤ t) (h2 : t ≤ 9223372036854775807) (h3 : -9223372036854775808 ≤ n) (h4 : n ≤ 9223372036854775807) :
    Calls Tryd.prog 21 #[.int .i64 t, .int .i64 n] w fun e w' => e = .returned (.bool (recentB t n)) ∧ w' = w := by
  by_cases h : t ≤ n
  · have e : recentB t n = decide (IntKind.u64.wrap (IntKind.u64.wrap n - IntKind.u64.wrap t) < 15778476) := by
      unfold recentB
      rw [decide_eq_true h, Bool.true_and]
      congr 1
      simp only [IntKind.wrap, IntKind.bits, IntKind.signed]
      apply propext
      simp
      omega
    rw [e]
    clear e
    go_enter Tryd.func21, Tryd.ntmps21
    go_wp2_with fail
    go_ret
    exact ⟨rfl, rfl⟩
  · have e : recentB t n = false := by unfold recentB; rw [decide_eq_false h]; rfl
    rw [e]
    clear e
    go_enter Tryd.func21, Tryd.ntmps21
    go_wp2_with fail
    go_ret
    exact ⟨rfl, rfl⟩

theorem awake_calls (w : World) (hg : Glob w) :
    Calls Tryd.prog 12 #[] w fun e w' => e = .returned (.bool true) ∧ Below w.heap.size w w' := by
  have HF := Format_calls [37, 70] 0 0 (by decide) w hg (by decide) (by decide)
  have HR := fun w => Recent_calls 0 5 w (by decide) (by decide) (by decide) (by decide)
  rw [show fmtL [37, 70] 0 0 = [49, 57, 55, 48, 45, 48, 49, 45, 48, 49] by decide +kernel] at HF
  rw [show recentB 0 5 = true by decide] at HR
  go_enter Tryd.func12, Tryd.ntmps12
  go_wp2_with fail
  refine HF.mono ?_
  rintro e w1 ⟨rfl, hb⟩
  go_wp2_with fail
  refine (HR _).mono ?_
  rintro e w1 ⟨rfl, rfl⟩
  go_wp2
  go_ret
  exact ⟨rfl, hb⟩

set_option maxHeartbeats 1000000 in
theorem StampJoins_calls (f g : List UInt8) (t : Int) (w : World) (hg : Glob w) (h1 : -9223372036854775808 ≤ t) (h2 : t ≤ 9223372036854775807) :
    Calls Tryd.prog 3 #[.string ⟨f.toArray⟩, .string ⟨g.toArray⟩, .int .i64 t] w fun e w' => e = .returned (.bool true) ∧ Below w.heap.size w w' := by
  have HA := fun w hg => awake_calls w hg
  have HG := Lib.hid hg
  clear hg
  by_cases c1 : (f.length : Int) ≤ 60
  · by_cases c2 : (g.length : Int) ≤ 60
    · by_cases c3 : (0 : Int) < f.length
      · have hlt : f.length - 1 < f.length := by omega
        have hi1 := fun W => index_str (P := Tryd.prog) Tryd.underlying9 f ((f.length : Int) - 1) f[f.length - 1] (by omega) (by rw [← List.getElem?_eq_getElem hlt]; congr 1; omega) W
        by_cases c4 : f[f.length - 1] = 37
        · rw [c4] at hi1
          clear c4
          go_enter Tryd.func3, Tryd.ntmps3
          go_wp2_with fail
          refine (HA _ HG.out).mono ?_
          rintro e w1 ⟨rfl, hb⟩
          go_wp2_with fail
          refine (HA _ (HG.out.of_below hb)).mono ?_
          rintro e w2 ⟨rfl, hb2⟩
          go_wp2
          go_ret
          exact ⟨rfl, below_seq hb hb2 (Nat.le_refl _)⟩
        · have hne : ((f[f.length - 1].toNat : Int) == 37) = false := by
            rw [beq_eq_false_iff_ne]; intro e; exact c4 (UInt8.toNat_inj.1 (by show f[f.length - 1].toNat = 37; omega))
          have hlast : f.getLast? ≠ some 37 := by
            rw [List.getLast?_eq_getElem?, List.getElem?_eq_getElem hlt]; intro e; exact c4 (Option.some.inj e)
          have HL := Lib.hid hlast; clear hlast
          clear c4
          generalize f[f.length - 1] = cc at *
          go_enter Tryd.func3, Tryd.ntmps3
          go_wp2_with fail
          refine (HA _ HG.out).mono ?_
          rintro e w1 ⟨rfl, hb⟩
          go_wp2_with fail
          refine (Format_calls (f ++ g) t 0 (by simp; omega) _ (HG.out.of_below hb) h1 h2).mono ?_
          rintro e w2 ⟨rfl, hb2⟩
          go_wp2_with fail
          refine (Format_calls f t 0 (by omega) _ (HG.out.of_below (below_seq hb hb2 (Nat.le_refl _))) h1 h2).mono ?_
          rintro e w3 ⟨rfl, hb3⟩
          go_wp2_with fail
          refine (Format_calls g t 0 (by omega) _ (HG.out.of_below (below_seq (below_seq hb hb2 (Nat.le_refl _)) hb3 (Nat.le_refl _))) h1 h2).mono ?_
          rintro e w4 ⟨rfl, hb4⟩
          have l1 := fmtL_length f t 0 h1 h2
          have l2 := fmtL_length g t 0 h1 h2
          have l3 : ((fmtL f t 0).length : Int) + (fmtL g t 0).length ≤ 9223372036854775807 := by omega
          clear l1 l2
          rw [show fmtL (f ++ g) t 0 = fmtL f t 0 ++ fmtL g t 0 from fmtWith_append _ g f HL.out]
          go_wp2
          go_ret
          refine ⟨congrArg (fun b => Ending.returned (Value.bool b)) (?_ : (fmtL f t 0 ++ fmtL g t 0 == ((⟨(fmtL f t 0).toArray⟩ : ByteArray) ++ (⟨(fmtL g t 0).toArray⟩ : ByteArray)).toList) = true), below_seq (below_seq (below_seq hb hb2 (Nat.le_refl _)) hb3 (Nat.le_refl _)) hb4 (Nat.le_refl _)⟩
          rw [bcat]
          simp
      · have hlast : f.getLast? ≠ some 37 := by
          obtain rfl : f = [] := List.length_eq_zero_iff.1 (by omega)
          simp
        have HL := Lib.hid hlast; clear hlast
        go_enter Tryd.func3, Tryd.ntmps3
        go_wp2_with fail
        refine (HA _ HG.out).mono ?_
        rintro e w1 ⟨rfl, hb⟩
        go_wp2_with fail
        refine (Format_calls (f ++ g) t 0 (by simp; omega) _ (HG.out.of_below hb) h1 h2).mono ?_
        rintro e w2 ⟨rfl, hb2⟩
        go_wp2_with fail
        refine (Format_calls f t 0 (by omega) _ (HG.out.of_below (below_seq hb hb2 (Nat.le_refl _))) h1 h2).mono ?_
        rintro e w3 ⟨rfl, hb3⟩
        go_wp2_with fail
        refine (Format_calls g t 0 (by omega) _ (HG.out.of_below (below_seq (below_seq hb hb2 (Nat.le_refl _)) hb3 (Nat.le_refl _))) h1 h2).mono ?_
        rintro e w4 ⟨rfl, hb4⟩
        have l1 := fmtL_length f t 0 h1 h2
        have l2 := fmtL_length g t 0 h1 h2
        have l3 : ((fmtL f t 0).length : Int) + (fmtL g t 0).length ≤ 9223372036854775807 := by omega
        clear l1 l2
        rw [show fmtL (f ++ g) t 0 = fmtL f t 0 ++ fmtL g t 0 from fmtWith_append _ g f HL.out]
        go_wp2
        go_ret
        refine ⟨congrArg (fun b => Ending.returned (Value.bool b)) (?_ : (fmtL f t 0 ++ fmtL g t 0 == ((⟨(fmtL f t 0).toArray⟩ : ByteArray) ++ (⟨(fmtL g t 0).toArray⟩ : ByteArray)).toList) = true), below_seq (below_seq (below_seq hb hb2 (Nat.le_refl _)) hb3 (Nat.le_refl _)) hb4 (Nat.le_refl _)⟩
        rw [bcat]
        simp
    · go_enter Tryd.func3, Tryd.ntmps3
      go_wp2_with fail
      refine (HA _ HG.out).mono ?_
      rintro e w1 ⟨rfl, hb⟩
      go_wp2_with fail
      refine (HA _ (HG.out.of_below hb)).mono ?_
      rintro e w2 ⟨rfl, hb2⟩
      go_wp2
      go_ret
      exact ⟨rfl, below_seq hb hb2 (Nat.le_refl _)⟩
  · go_enter Tryd.func3, Tryd.ntmps3
    go_wp2_with fail
    refine (HA _ HG.out).mono ?_
    rintro e w1 ⟨rfl, hb⟩
    go_wp2_with fail
    refine (HA _ (HG.out.of_below hb)).mono ?_
    rintro e w2 ⟨rfl, hb2⟩
    go_wp2
    go_ret
    exact ⟨rfl, below_seq hb hb2 (Nat.le_refl _)⟩
end Go.Proofs.YtnjocahkiodifaaDoor
