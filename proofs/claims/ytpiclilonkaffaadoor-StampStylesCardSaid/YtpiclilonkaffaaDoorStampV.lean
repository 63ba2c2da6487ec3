/- The reference's format: its calls. -/
import Derived.Outline
import Derived.Test.YtpiclilonkaffaaDoorStampU
namespace Go.Proofs.YtpiclilonkaffaaDoor
open Go.RowKit

set_option maxRecDepth 100000 in
set_option maxHeartbeats 2000000 in
theorem RFormat_calls (f : List UInt8) (t o : Int) (hf : f.length ≤ 2147483647) (w : World) (h1 : -9223372036854775808 ≤ t) (h2 : t ≤ 9223372036854775807) (ho1 : -9223372036854775808 ≤ o) (ho2 : o ≤ 9223372036854775807) :
    Calls Tryd.prog 23 #[.string ⟨f.toArray⟩, .int .i64 t, .int .i64 o] w fun e w' => e = .returned (.string ⟨(fmtL f t o).toArray⟩) ∧ Below w.heap.size w w' := by
  have HD := Lib.hid (fun c w => ROne_calls c t o w h1 h2 ho1 ho2)
  have HK := Lib.hid (dirL_length t o h1 h2)
  unfold fmtL
  generalize dirL t o = D at *
  go_enter Tryd.func23, Tryd.ntmps23
  go_wp2_with fail
  go_loopg [7, 8] (f.length + 1) (fun g s i wr => ∃ (k : Nat) (out : List UInt8), k ≤ f.length ∧ f.length + 1 - k ≤ g ∧ i = .int .i64 k ∧ s = .string ⟨out.toArray⟩ ∧
    Aside (Below w.heap.size w wr ∧ out ++ fmtWith D (f.drop k) = fmtWith D f ∧ out.length ≤ 400 * k))
  case atStart => exact ⟨0, [], Nat.zero_le _, by omega, rfl, rfl, ⟨Below.refl _ _, by simp, by simp⟩⟩
  case round =>
    obtain ⟨k, out, hk, hgk, rfl, rfl, HA⟩ := hrel
    by_cases hlt : k < f.length
    · have hc : f[k]? = some f[k] := List.getElem?_eq_getElem hlt
      have hi1 := fun W => index_str (P := Tryd.prog) Tryd.underlying9 f (k : Int) f[k] (by omega) hc W
      have n1 : ¬ 9223372036854775807 < out.length + 1 := by have := HA.out.2.2; omega
      have hx : ((⟨f.toArray⟩ : ByteArray).extract k (k + 1)) = ⟨[f[k]].toArray⟩ := by
        apply ByteArray.ext
        apply Array.ext'
        show ((⟨f.toArray⟩ : ByteArray).extract k (k + 1)).data.toList = [f[k]]
        rw [Lib.extract_data]
        show (f.drop k).take (k + 1 - k) = _
        rw [List.drop_eq_getElem_cons hlt, Nat.add_sub_cancel_left]; rfl
      clear hc
      by_cases h37 : f[k] = 37
      · by_cases hlt2 : (k : Int) < (f.length : Int) - 1
        · have hlt3 : k + 1 < f.length := by omega
          have hc2 : f[k + 1]? = some f[k + 1] := List.getElem?_eq_getElem hlt3
          have hi2 := fun W => index_str (P := Tryd.prog) Tryd.underlying9 f ((k : Int) + 1) f[k + 1] (by omega) hc2 W
          have hdir := HD.out f[k + 1]
          clear hc2
          rw [h37] at hi1 hx
          cases hd : D f[k + 1] with
          | none =>
            rw [hd] at hdir
            simp only [resD, Option.getD_none, Option.isSome_none] at hdir
            have HD1 := Lib.hid hd; clear hd
            have H37 := Lib.hid h37; clear h37
            go_wp2_with fail
            refine (hdir _).mono ?_
            rintro e w1 ⟨rfl, hb1⟩
            go_wp2_with fail
            have hst := fmt_step_byte D f k out hlt HA.out.2.1 (.inr fun _ => HD1.out); rw [H37.out] at hst
            go_roundg (gk - 1)
            case measure => omega
            case rel =>
              refine ⟨k + 1, out ++ [37], by omega, by omega, by go_num, by go_simp; exact bcat _ _, ⟨below_seq HA.out.1 hb1 (Nat.le_refl _), hst, ?_⟩⟩
              have := HA.out.2.2
              simp; omega
          | some s =>
            rw [hd] at hdir
            simp only [resD, Option.getD_some, Option.isSome_some] at hdir
            have hsl := HK.out _ _ hd
            have HD1 := Lib.hid hd; clear hd
            have H37 := Lib.hid h37; clear h37
            have n2 : ¬ 9223372036854775807 < out.length + s.length := by have := HA.out.2.2; omega
            go_wp2_with fail
            refine (hdir _).mono ?_
            rintro e w1 ⟨rfl, hb1⟩
            go_wp2_with fail
            have hst := fmt_step_dir D f k out s hlt3 HA.out.2.1 H37.out HD1.out
            go_roundg (gk - 1)
            case measure => omega
            case rel =>
              refine ⟨k + 2, out ++ s, by omega, by omega, by go_num, by go_simp; exact bcat _ _, ⟨below_seq HA.out.1 hb1 (Nat.le_refl _), hst, ?_⟩⟩
              have := HA.out.2.2
              simp; omega
        · rw [h37] at hi1 hx
          have H37 := Lib.hid h37; clear h37
          go_wp2_with fail
          have hst := fmt_step_byte D f k out hlt HA.out.2.1 (.inr fun h => absurd h (by omega)); rw [H37.out] at hst
          go_roundg (gk - 1)
          case measure => omega
          case rel =>
            refine ⟨k + 1, out ++ [37], by omega, by omega, by go_num, by go_simp; exact bcat _ _, ⟨HA.out.1, hst, ?_⟩⟩
            have := HA.out.2.2
            simp; omega
      · have hne : ((f[k].toNat : Int) == 37) = false := by
          rw [beq_eq_false_iff_ne]; intro e; exact h37 (UInt8.toNat_inj.1 (by show f[k].toNat = 37; omega))
        have H37 := Lib.hid h37; clear h37
        go_wp2_with fail
        have hst := fmt_step_byte D f k out hlt HA.out.2.1 (.inl H37.out)
        go_roundg (gk - 1)
        case measure => omega
        case rel =>
          refine ⟨k + 1, out ++ [f[k]], by omega, by omega, by go_num, by go_simp; exact bcat _ _, ⟨HA.out.1, hst, ?_⟩⟩
          have := HA.out.2.2
          simp; omega
    · go_wp2_with fail
      go_ret
      have he := HA.out.2.1
      rw [List.drop_eq_nil_of_le (by omega)] at he
      have he' : out = fmtWith D f := by simpa [fmtWith] using he
      exact ⟨by rw [← he']; rfl, HA.out.1⟩
end Go.Proofs.YtpiclilonkaffaaDoor
