/- stamp.Format: its calls. -/
import Derived.Test.YtpiclilonkaffaaDoorStampD
namespace Go.Proofs.YtpiclilonkaffaaDoor
open Go.RowKit

/-- A byte of a text. -/
theorem index_str {P : Program} {T : TypeId} (hT : P.underlying T = some .string) (f : List UInt8) (i : Int) (c : UInt8) (h0 : 0 ≤ i) (h : f[i.toNat]? = some c) (W : World) :
    (Instr.index T (.string ⟨f.toArray⟩) (.int .i64 i)).run P W = .ok (.int .u8 c.toNat) W := by
  have hs : (⟨f.toArray⟩ : ByteArray)[i.toNat]? = some c := by
    have hl : i.toNat < f.length := by
      rcases Nat.lt_or_ge i.toNat f.length with h' | h'
      · exact h'
      · rw [List.getElem?_eq_none h'] at h; cases h
    rw [getElem?_pos _ _ (by show i.toNat < (⟨f.toArray⟩ : ByteArray).size; rw [bsize]; exact hl)]
    rw [List.getElem?_eq_getElem hl] at h
    rw [← h]
    rfl
  simp only [Instr.index, asIntOf, run_underlying hT, Sem.run_bind, Sem.run_pure, Result.andThen_ok, if_pos h0, hs]

theorem BldNow.below {T B b o : Nat} {cs : Array Value} {v : Value} {l l' : List UInt8} {w0 w w' : World} (h : BldNow T B b o cs v l' w w') (hB : B ≤ b) (hA : BldAt T B b o cs l w) (hv : cs[o + 1]? = some v)
    (hb : Below B w0 w) (hB0 : B ≤ w0.heap.size) : Below B w0 w' := by
  obtain ⟨v2, hv2, hown, _⟩ := hA.buf
  rw [hv] at hv2
  obtain rfl := Option.some.inj hv2
  refine Frm.below (B := B) (((Frm.of_below hb).trans (h.frame.mono ?_))) hB0
  rintro i hi (rfl | h)
  · exact hB
  · exact (hown.lt _ h.symm).1

theorem BldAt.below {T B b o : Nat} {cs : Array Value} {l : List UInt8} {w w' : World} (h : BldAt T B b o cs l w) (hb : Below w.heap.size w w') : BldAt T B b o cs l w' := by
  obtain ⟨v, hv, hown, hvb⟩ := h.buf
  exact ⟨(hb.block b (ltOf h.block)).trans h.block, h.addr, v, hv, hown.kept (row := none) ⟨hb.os, hb.tape, hb.output, hb.size, fun k hk _ => hb.block k hk⟩ (by cases v.ownBlock <;> simp), hvb⟩

theorem Glob.of_below {w w' : World} (h : Glob w) (hb : Below w.heap.size w w') : Glob w' := h.below hb

theorem fmt_step_byte (D : UInt8 → Option (List UInt8)) (f : List UInt8) (k : Nat) (out : List UInt8) (hlt : k < f.length) (h : out ++ fmtWith D (f.drop k) = fmtWith D f)
    (hc : f[k] ≠ 37 ∨ ∀ h : k + 1 < f.length, D f[k + 1] = none) : (out ++ [f[k]]) ++ fmtWith D (f.drop (k + 1)) = fmtWith D f := by
  rw [← h, List.append_assoc, List.drop_eq_getElem_cons hlt]
  congr 1
  by_cases hl : k + 1 < f.length
  · rw [List.drop_eq_getElem_cons hl, fmtWith_cons2]
    rcases hc with hc | hc
    · rw [if_neg hc]; rfl
    · rw [hc hl]; split <;> rfl
  · rw [List.drop_eq_nil_of_le (by omega)]; rfl
theorem fmt_step_dir (D : UInt8 → Option (List UInt8)) (f : List UInt8) (k : Nat) (out s : List UInt8) (hlt : k + 1 < f.length) (h : out ++ fmtWith D (f.drop k) = fmtWith D f)
    (hc : f[k] = 37) (hs : D f[k + 1] = some s) : (out ++ s) ++ fmtWith D (f.drop (k + 2)) = fmtWith D f := by
  rw [← h, List.append_assoc, List.drop_eq_getElem_cons (show k < f.length by omega), List.drop_eq_getElem_cons hlt, fmtWith_cons2, if_pos hc, hs]

theorem lies_builder : BldLies 89 2 0 := by unfold BldLies; kernel_rfl

set_option maxRecDepth 100000 in
set_option maxHeartbeats 2000000 in
theorem Format_of (D : UInt8 → Option (List UInt8)) (t o : Int) (f : List UInt8) (hf : f.length ≤ 2147483647)
    (hD : ∀ c, c ∈ f → ∀ w, Glob w → Calls Tryd.prog 35 #[.int .u8 c.toNat, .int .i64 t, .int .i64 o] w fun e w' => e = .returned (resD (D c)) ∧ Below w.heap.size w w')
    (hK : ∀ c s, D c = some s → s.length ≤ 400) (w : World) (hg : Glob w) :
    Calls Tryd.prog 22 #[.string ⟨f.toArray⟩, .int .i64 t, .int .i64 o] w fun e w' => e = .returned (.string ⟨(fmtWith D f).toArray⟩) ∧ Below w.heap.size w w' := by
  have hD' := Lib.hid hD
  have hK' := Lib.hid hK
  have hG' := Lib.hid hg
  clear hD hK hg
  go_enter Tryd.func22, Tryd.ntmps22
  go_wp2_with fail
  go_loopg [8] (2 * f.length + 1) (fun g i wr => ∃ (k : Nat) (out : List UInt8) (cs : Array Value), k ≤ f.length ∧ 2 * f.length + 1 - 2 * k ≤ g ∧ i = .int .i64 k ∧
    Aside (BldAt 89 w.heap.size w.heap.size 0 cs out wr ∧ cs.size = 2 ∧ Below w.heap.size w wr ∧ out ++ fmtWith D (f.drop k) = fmtWith D f ∧ out.length ≤ 400 * k))
  case atStart =>
    refine ⟨0, [], #[.pointer none, .slice none 0 0], Nat.zero_le _, by omega, rfl, ⟨⟨heap_alloc_new _ _, .inl rfl, ⟨_, rfl, ⟨rfl, .inl ⟨rfl, rfl⟩⟩, by simp [Value.ownBlock]⟩⟩, rfl, (Below.refl _ _).alloc (Nat.le_refl _) _, by simp, by simp⟩⟩
  case round =>
    obtain ⟨k, out, cs, hk, hgk, rfl, HA⟩ := hrel
    by_cases hlt : k < f.length
    · have hc : f[k]? = some f[k] := List.getElem?_eq_getElem hlt
      have hi1 := fun W => index_str (P := Tryd.prog) Tryd.underlying9 f (k : Int) f[k] (by omega) hc W
      clear hc
      by_cases h37 : f[k] = 37
      · by_cases hlt2 : k + 1 < f.length
        · have hc2 : f[k + 1]? = some f[k + 1] := List.getElem?_eq_getElem hlt2
          have hi2 := fun W => index_str (P := Tryd.prog) Tryd.underlying9 f ((k : Int) + 1) f[k + 1] (by omega) hc2 W
          have hdir := hD'.out f[k + 1] (List.getElem_mem hlt2)
          clear hc2
          rw [h37] at hi1
          cases hd : D f[k + 1] with
          | none =>
            rw [hd] at hdir
            simp only [resD, Option.getD_none, Option.isSome_none] at hdir
            have HD := Lib.hid hd; clear hd
            have H37 := Lib.hid h37; clear h37
            go_wp2_with fail
            refine (hdir _ (hG'.out.of_below HA.out.2.2.1)).mono ?_
            rintro e w1 ⟨rfl, hb1⟩
            go_wp2_with fail
            refine (WriteByte_calls 89 w.heap.size w.heap.size 0 cs out 37 w1 (HA.out.1.below hb1) (by rw [HA.out.2.1]; exact lies_builder) (by decide) (by have := HA.out.2.2.2.2; omega) (Nat.le_trans HA.out.2.2.1.size hb1.size)).mono ?_
            rintro e w2 ⟨rfl, v, hv, hbn⟩
            go_wp2
            obtain ⟨v', hnew, -⟩ := hbn.now
            have hbel := hbn.below (Nat.le_refl _) (HA.out.1.below hb1) hv (below_seq HA.out.2.2.1 hb1 (Nat.le_refl _)) (Nat.le_refl _)
            have hst := fmt_step_byte D f k out hlt HA.out.2.2.2.1 (.inr fun _ => HD.out)
            rw [H37.out] at hst
            go_roundg (gk - 1)
            case measure => omega
            case rel =>
              refine ⟨k + 1, out ++ [37], _, by omega, by omega, by go_num, ⟨hnew, by simp [HA.out.2.1], hbel, hst, ?_⟩⟩
              have := HA.out.2.2.2.2
              simp; omega
          | some s =>
            rw [hd] at hdir
            simp only [resD, Option.getD_some, Option.isSome_some] at hdir
            have hsl := hK'.out _ _ hd
            have HD := Lib.hid hd; clear hd
            have H37 := Lib.hid h37; clear h37
            go_wp2_with fail
            refine (hdir _ (hG'.out.of_below HA.out.2.2.1)).mono ?_
            rintro e w1 ⟨rfl, hb1⟩
            go_wp2_with fail
            refine (WriteString_calls 89 w.heap.size w.heap.size 0 cs out ⟨s.toArray⟩ w1 (HA.out.1.below hb1) (by rw [HA.out.2.1]; exact lies_builder) (by decide) (by have := HA.out.2.2.2.2; rw [bsize]; omega) (Nat.le_trans HA.out.2.2.1.size hb1.size)).mono ?_
            rintro e w2 ⟨rfl, v, hv, hbn⟩
            go_wp2
            obtain ⟨v', hnew, -⟩ := hbn.now
            have hbel := hbn.below (Nat.le_refl _) (HA.out.1.below hb1) hv (below_seq HA.out.2.2.1 hb1 (Nat.le_refl _)) (Nat.le_refl _)
            have hst := fmt_step_dir D f k out s hlt2 HA.out.2.2.2.1 H37.out HD.out
            go_roundg (gk - 1)
            case measure => omega
            case rel =>
              refine ⟨k + 2, out ++ s, _, by omega, by omega, by go_num, ⟨hnew, by simp [HA.out.2.1], hbel, hst, ?_⟩⟩
              have := HA.out.2.2.2.2
              simp; omega
        · rw [h37] at hi1
          have H37 := Lib.hid h37; clear h37
          go_wp2_with fail
          refine (WriteByte_calls 89 w.heap.size w.heap.size 0 cs out 37 wr HA.out.1 (by rw [HA.out.2.1]; exact lies_builder) (by decide) (by have := HA.out.2.2.2.2; omega) HA.out.2.2.1.size).mono ?_
          rintro e w2 ⟨rfl, v, hv, hbn⟩
          go_wp2
          obtain ⟨v', hnew, -⟩ := hbn.now
          have hbel := hbn.below (Nat.le_refl _) HA.out.1 hv HA.out.2.2.1 (Nat.le_refl _)
          have hst := fmt_step_byte D f k out hlt HA.out.2.2.2.1 (.inr fun h => absurd h hlt2)
          rw [H37.out] at hst
          go_roundg (gk - 1)
          case measure => omega
          case rel =>
            refine ⟨k + 1, out ++ [37], _, by omega, by omega, by go_num, ⟨hnew, by simp [HA.out.2.1], hbel, hst, ?_⟩⟩
            have := HA.out.2.2.2.2
            simp; omega
      · have hne : ((f[k].toNat : Int) == 37) = false := by
          rw [beq_eq_false_iff_ne]; intro e; exact h37 (UInt8.toNat_inj.1 (by show f[k].toNat = 37; omega))
        have H37 := Lib.hid h37; clear h37
        go_wp2_with fail
        refine (WriteByte_calls 89 w.heap.size w.heap.size 0 cs out f[k] wr HA.out.1 (by rw [HA.out.2.1]; exact lies_builder) (by decide) (by have := HA.out.2.2.2.2; omega) HA.out.2.2.1.size).mono ?_
        rintro e w2 ⟨rfl, v, hv, hbn⟩
        go_wp2
        obtain ⟨v', hnew, -⟩ := hbn.now
        have hbel := hbn.below (Nat.le_refl _) HA.out.1 hv HA.out.2.2.1 (Nat.le_refl _)
        have hst := fmt_step_byte D f k out hlt HA.out.2.2.2.1 (.inl H37.out)
        go_roundg (gk - 1)
        case measure => omega
        case rel =>
          refine ⟨k + 1, out ++ [f[k]], _, by omega, by omega, by go_num, ⟨hnew, by simp [HA.out.2.1], hbel, hst, ?_⟩⟩
          have := HA.out.2.2.2.2
          simp; omega
    · go_wp2_with fail
      refine (String_calls 89 w.heap.size w.heap.size 0 cs out wr HA.out.1).mono ?_
      rintro e w2 ⟨rfl, v, hv, hfr⟩
      go_wp2
      go_ret
      have he := HA.out.2.2.2.1
      rw [List.drop_eq_nil_of_le (by omega)] at he
      have he' : out = fmtWith D f := by simpa [fmtWith] using he
      obtain ⟨v2, hv2, hown, _⟩ := HA.out.1.buf
      rw [hv] at hv2
      obtain rfl := Option.some.inj hv2
      refine ⟨by rw [← he']; rfl, Frm.below (((Frm.of_below HA.out.2.2.1).trans (hfr.mono ?_))) (Nat.le_refl _)⟩
      intro i hi h
      exact (hown.lt _ h.symm).1

theorem dirS_none (t o : Int) (c : UInt8) (hn : ¬ (c.toNat = 89 ∨ c.toNat = 109 ∨ c.toNat = 100 ∨ c.toNat = 101 ∨ c.toNat = 72 ∨ c.toNat = 77 ∨ c.toNat = 83 ∨ c.toNat = 106 ∨ c.toNat = 98 ∨ c.toNat = 97 ∨ c.toNat = 115 ∨ c.toNat = 122 ∨ c.toNat = 37)) : dirS t o c = none := by
  have z : ∀ (d : UInt8) (m : Nat), d.toNat = m → c.toNat ≠ m → c ≠ d := fun d m hm h e => h (by rw [e, hm])
  unfold dirS
  dsimp only
  rw [if_neg (z 89 89 rfl (by omega)), if_neg (z 109 109 rfl (by omega)), if_neg (z 100 100 rfl (by omega)), if_neg (z 101 101 rfl (by omega)), if_neg (z 72 72 rfl (by omega)), if_neg (z 77 77 rfl (by omega)), if_neg (z 83 83 rfl (by omega)), if_neg (z 106 106 rfl (by omega)),
    if_neg (z 98 98 rfl (by omega)), if_neg (z 97 97 rfl (by omega)), if_neg (z 115 115 rfl (by omega)), if_neg (z 122 122 rfl (by omega)), if_neg (z 37 37 rfl (by omega))]

/-- Any directive but F and T. -/
theorem directive_simple (c : UInt8) (hF : c.toNat ≠ 70) (hT : c.toNat ≠ 84) (t o : Int) (w : World) (hg : Glob w) (h1 : -9223372036854775808 ≤ t) (h2 : t ≤ 9223372036854775807) :
    Calls Tryd.prog 35 #[.int .u8 c.toNat, .int .i64 t, .int .i64 o] w fun e w' => e = .returned (resD (dirS t o c)) ∧ Below w.heap.size w w' := by
  by_cases hn : c.toNat = 89 ∨ c.toNat = 109 ∨ c.toNat = 100 ∨ c.toNat = 101 ∨ c.toNat = 72 ∨ c.toNat = 77 ∨ c.toNat = 83 ∨ c.toNat = 106 ∨ c.toNat = 98 ∨ c.toNat = 97 ∨ c.toNat = 115 ∨ c.toNat = 122 ∨ c.toNat = 37
  · have := directive_num c.toNat t o w hg h1 h2 hn
    rwa [UInt8.ofNat_toNat] at this
  · rw [dirS_none t o c hn]
    exact directive_none c.toNat t o w h1 h2 (by omega)

theorem Format_plain (t o : Int) (f : List UInt8) (hf : f.length ≤ 2147483647) (hp : ∀ c ∈ f, c.toNat ≠ 70 ∧ c.toNat ≠ 84) (w : World) (hg : Glob w) (h1 : -9223372036854775808 ≤ t) (h2 : t ≤ 9223372036854775807) :
    Calls Tryd.prog 22 #[.string ⟨f.toArray⟩, .int .i64 t, .int .i64 o] w fun e w' => e = .returned (.string ⟨(fmtWith (dirS t o) f).toArray⟩) ∧ Below w.heap.size w w' :=
  Format_of (dirS t o) t o f hf (fun c hc w hg => directive_simple c (hp c hc).1 (hp c hc).2 t o w hg h1 h2) (fun c s h => by have := dirS_length t o h1 h2 c s h; omega) w hg

set_option maxRecDepth 100000 in
set_option maxHeartbeats 1000000 in
theorem directive_F (t o : Int) (w : World) (hg : Glob w) (h1 : -9223372036854775808 ≤ t) (h2 : t ≤ 9223372036854775807) :
    Calls Tryd.prog 35 #[.int .u8 70, .int .i64 t, .int .i64 o] w fun e w' => e = .returned (resD (some (fmtWith (dirS t o) fmtF))) ∧ Below w.heap.size w w' := by
  have HO := Of_calls t o w h1 h2
  generalize dOf t o = d at HO
  obtain ⟨y, mo, da, ho, mi, se, wd, yd⟩ := d
  simp only [Dt.val] at HO
  have HF := fun w hg => Format_plain t o fmtF (by decide) (by decide) w hg h1 h2
  generalize fmtWith (dirS t o) fmtF = r at *
  go_enter Tryd.func35, Tryd.ntmps35
  go_wp2_with fail
  refine HO.mono ?_
  rintro e w1 ⟨rfl, hb⟩
  have hgA : ∀ ob, Glob (w1.alloc ob) := fun ob => (hg.below hb).below ((Below.refl _ _).alloc (Nat.le_refl _) _)
  have hbA : ∀ ob, Below w.heap.size w (w1.alloc ob) := fun ob => hb.alloc hb.size _
  go_wp2_with fail
  refine (HF _ (hgA _)).mono ?_
  rintro e w2 ⟨rfl, hb2⟩
  go_wp2
  go_ret2
  exact ⟨rfl, below_seq (hbA _) hb2 (Nat.le_refl _)⟩

set_option maxRecDepth 100000 in
set_option maxHeartbeats 1000000 in
theorem directive_T (t o : Int) (w : World) (hg : Glob w) (h1 : -9223372036854775808 ≤ t) (h2 : t ≤ 9223372036854775807) :
    Calls Tryd.prog 35 #[.int .u8 84, .int .i64 t, .int .i64 o] w fun e w' => e = .returned (resD (some (fmtWith (dirS t o) fmtT))) ∧ Below w.heap.size w w' := by
  have HO := Of_calls t o w h1 h2
  generalize dOf t o = d at HO
  obtain ⟨y, mo, da, ho, mi, se, wd, yd⟩ := d
  simp only [Dt.val] at HO
  have HF := fun w hg => Format_plain t o fmtT (by decide) (by decide) w hg h1 h2
  generalize fmtWith (dirS t o) fmtT = r at *
  go_enter Tryd.func35, Tryd.ntmps35
  go_wp2_with fail
  refine HO.mono ?_
  rintro e w1 ⟨rfl, hb⟩
  have hgA : ∀ ob, Glob (w1.alloc ob) := fun ob => (hg.below hb).below ((Below.refl _ _).alloc (Nat.le_refl _) _)
  have hbA : ∀ ob, Below w.heap.size w (w1.alloc ob) := fun ob => hb.alloc hb.size _
  go_wp2_with fail
  refine (HF _ (hgA _)).mono ?_
  rintro e w2 ⟨rfl, hb2⟩
  go_wp2
  go_ret2
  exact ⟨rfl, below_seq (hbA _) hb2 (Nat.le_refl _)⟩

theorem directive_calls (c : UInt8) (t o : Int) (w : World) (hg : Glob w) (h1 : -9223372036854775808 ≤ t) (h2 : t ≤ 9223372036854775807) :
    Calls Tryd.prog 35 #[.int .u8 c.toNat, .int .i64 t, .int .i64 o] w fun e w' => e = .returned (resD (dirL t o c)) ∧ Below w.heap.size w w' := by
  unfold dirL
  by_cases hF : c = 70
  · subst hF; rw [if_pos rfl]; exact directive_F t o w hg h1 h2
  · rw [if_neg hF]
    by_cases hT : c = 84
    · subst hT; rw [if_pos rfl]; exact directive_T t o w hg h1 h2
    · rw [if_neg hT]
      exact directive_simple c (fun e => hF (UInt8.toNat_inj.1 e)) (fun e => hT (UInt8.toNat_inj.1 e)) t o w hg h1 h2

/-- stamp.Format. -/
theorem Format_calls (f : List UInt8) (t o : Int) (hf : f.length ≤ 2147483647) (w : World) (hg : Glob w) (h1 : -9223372036854775808 ≤ t) (h2 : t ≤ 9223372036854775807) :
    Calls Tryd.prog 22 #[.string ⟨f.toArray⟩, .int .i64 t, .int .i64 o] w fun e w' => e = .returned (.string ⟨(fmtL f t o).toArray⟩) ∧ Below w.heap.size w w' :=
  Format_of (dirL t o) t o f hf (fun c _ w hg => directive_calls c t o w hg h1 h2) (dirL_length t o h1 h2) w hg

theorem fmtL_length (f : List UInt8) (t o : Int) (h1 : -9223372036854775808 ≤ t) (h2 : t ≤ 9223372036854775807) : (fmtL f t o).length ≤ 400 * f.length :=
  fmtWith_length _ 400 (by omega) (dirL_length t o h1 h2) f
end Go.Proofs.YtpiclilonkaffaaDoor
