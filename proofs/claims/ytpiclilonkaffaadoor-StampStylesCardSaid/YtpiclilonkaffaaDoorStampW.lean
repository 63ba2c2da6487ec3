/- Layer 1's Dec, layer 5's functions: their calls. -/
import Derived.Test.YtpiclilonkaffaaDoorDateW
import Derived.Test.YtpiclilonkaffaaDoorStampP
import Derived.Test.YtpiclilonkaffaaDoorDigP
import Derived.Test.YtpiclilonkaffaaDoorBldS
import Derived.Test.YtpiclilonkaffaaDoorShelf
namespace Go.Proofs.YtpiclilonkaffaaDoor
open Go.RowKit

theorem var_keep {P : Program} {w w' : World} {n : String} {cs : Array Value} (h : w.var? P n = some cs) (hb : Below w.heap.size w w') : w'.var? P n = some cs := by
  unfold World.var? at *
  cases hg : P.globalNamed n with
  | none => rw [hg] at h; cases h
  | some g =>
    rw [hg] at h
    simp only [Option.bind_some] at h ⊢
    rcases Nat.lt_or_ge g w.heap.size with hl | hl
    · rw [hb.block g hl]; exact h
    · rw [Array.getElem?_eq_none hl] at h; cases h

/-- The library's tables. -/
structure Glob (w : World) : Prop where
  pow10 : Lib.TabIs Tryd.prog w "internal/strconv.uint64pow10" .u64 Lib.pow10Tab
theorem Glob.below {w w' : World} (h : Glob w) (hb : Below w.heap.size w w') : Glob w' := ⟨var_keep h.pow10 hb⟩
theorem Glob.dn {w : World} (h : Glob w) (n : Nat) : Glob (w.drewN n) := h.below (below_dn (Below.refl _ _) n)

theorem below_grow (w : World) (k : Nat) (os : Array Obj) : Below w.heap.size w (Sort.grow (w.drewN k) os) :=
  ⟨rfl, rfl, rfl, by simp [Sort.grow], fun i hi => by simp [Sort.grow, Array.getElem?_append, hi]⟩

set_option maxHeartbeats 400000 in
theorem Dec_calls (n : Int) (w : World) (hg : Glob w) (h0 : -9223372036854775808 ≤ n) (h1 : n ≤ 9223372036854775807) :
    Calls Tryd.prog 58 #[.int .i64 n] w fun e w' => e = .returned (.string ⟨(Lib.itoa n).toArray⟩) ∧ Below w.heap.size w w' := by
  go_enter Tryd.func58, Tryd.ntmps58
  go_wp2_with fail
  refine (Tryd.strconv_FormatInt_10 n h0 h1 _ hg.pow10).mono ?_
  rintro e w' ⟨rfl, k, os, rfl⟩
  go_wp2
  go_ret
  exact ⟨rfl, below_grow _ _ _⟩

theorem repeatL_one (c : UInt8) (n : Nat) : Lib.repeatL [c] n = List.replicate n c := by
  induction n with
  | zero => rfl
  | succ n ih => simp [Lib.repeatL, ih, List.replicate_succ]

set_option maxHeartbeats 400000 in
theorem pad_calls (n : Int) (size : Nat) (c : UInt8) (w : World) (hg : Glob w) (h0 : -9223372036854775808 ≤ n) (h1 : n ≤ 9223372036854775807) (hs : size ≤ 10) :
    Calls Tryd.prog 59 #[.int .i64 n, .int .i64 size, .string ⟨#[c]⟩] w fun e w' => e = .returned (.string ⟨(padL n size c).toArray⟩) ∧ Below w.heap.size w w' := by
  have hl := Lib.itoa_length_le n h0 h1
  have hD := Dec_calls n w hg h0 h1
  unfold padL
  generalize Lib.itoa n = s at *
  go_enter Tryd.func59, Tryd.ntmps59
  go_wp2_with fail
  refine hD.mono ?_
  rintro e w1 ⟨rfl, hb⟩
  go_wp2_with fail
  rw [show max ((size : Int) - (s.length : Int)) 0 = ((size - s.length : Nat) : Int) by omega]
  have hR := Tryd.strings_Repeat ⟨#[c]⟩ (size - s.length) w1 (by omega) (by simp [ByteArray.size]; omega)
  have hr : Lib.repeatL [c] (size - s.length) = List.replicate (size - s.length) c := repeatL_one c _
  simp only [hr] at hR
  have hrl : (List.replicate (size - s.length) c).length ≤ 10 := by simp; omega
  clear hr
  obtain ⟨r, hr⟩ : ∃ r, List.replicate (size - s.length) c = r := ⟨_, rfl⟩
  rw [hr] at hR hrl
  have HR := Lib.hid hr; clear hr
  refine hR.mono ?_
  rintro e w2 ⟨rfl, hb2⟩
  go_wp2
  go_ret
  exact ⟨by rw [HR.out]; rfl, below_seq hb hb2 (Nat.le_refl _)⟩

/-- A string's own spelling. -/
def str (l : List UInt8) : Value := .string ⟨l.toArray⟩

set_option maxHeartbeats 1000000 in
theorem zone_calls (o : Int) (w : World) (hg : Glob w) :
    Calls Tryd.prog 60 #[.int .i64 o] w fun e w' => e = .returned (.string ⟨(zoneL o).toArray⟩) ∧ Below w.heap.size w w' := by
  obtain ⟨c, hc⟩ : ∃ c, min (max o (-86400)) 86400 = c := ⟨_, rfl⟩
  have hcl : clampOff o = c := hc
  have c0 : -86400 ≤ c := by omega
  have c1 : c ≤ 86400 := by omega
  unfold zoneL
  rw [hcl]
  dsimp only
  have HCL := Lib.hid hcl; clear hcl
  by_cases hs : c < 0
  · obtain ⟨m, rfl⟩ : ∃ m, c = -m := ⟨-c, by omega⟩
    have hm0 : 0 < m := by omega
    have hm1 : m ≤ 86400 := by omega
    rw [if_pos hs]
    simp only [Int.neg_neg]
    have hp1 := fun (w : World) (hg : Glob w) => pad_calls (m / 3600) 2 48 w hg (by omega) (by omega) (by omega)
    have hp2 := fun (w : World) (hg : Glob w) => pad_calls (m / 60 % 60) 2 48 w hg (by omega) (by omega) (by omega)
    have hl1 := padL_length (m / 3600) 2 48 (by omega) (by omega)
    have hl2 := padL_length (m / 60 % 60) 2 48 (by omega) (by omega)
    generalize padL (m / 3600) 2 48 = s1 at *
    generalize padL (m / 60 % 60) 2 48 = s2 at *
    go_enter Tryd.func60, Tryd.ntmps60
    go_wp2_with fail
    clear hc
    refine (hp1 _ hg).mono ?_
    rintro e w1 ⟨rfl, hb1⟩
    go_wp2_with fail
    refine (hp2 _ (hg.below hb1)).mono ?_
    rintro e w2 ⟨rfl, hb2⟩
    go_wp2
    go_ret
    refine ⟨?_, below_seq hb1 hb2 (Nat.le_refl _)⟩
    show Ending.returned (.string ((⟨([45] : List UInt8).toArray⟩ ++ ⟨s1.toArray⟩ : ByteArray) ++ ⟨s2.toArray⟩)) = _
    rw [bcat, bcat]; simp
  · have hp1 := fun (w : World) (hg : Glob w) => pad_calls (c / 3600) 2 48 w hg (by omega) (by omega) (by omega)
    have hp2 := fun (w : World) (hg : Glob w) => pad_calls (c / 60 % 60) 2 48 w hg (by omega) (by omega) (by omega)
    have hl1 := padL_length (c / 3600) 2 48 (by omega) (by omega)
    have hl2 := padL_length (c / 60 % 60) 2 48 (by omega) (by omega)
    have hn : 0 ≤ c := by omega
    rw [if_neg hs]
    generalize padL (c / 3600) 2 48 = s1 at *
    generalize padL (c / 60 % 60) 2 48 = s2 at *
    go_enter Tryd.func60, Tryd.ntmps60
    go_wp2_with fail
    clear hc
    refine (hp1 _ hg).mono ?_
    rintro e w1 ⟨rfl, hb1⟩
    go_wp2_with fail
    refine (hp2 _ (hg.below hb1)).mono ?_
    rintro e w2 ⟨rfl, hb2⟩
    go_wp2
    go_ret
    refine ⟨?_, below_seq hb1 hb2 (Nat.le_refl _)⟩
    show Ending.returned (.string ((⟨([43] : List UInt8).toArray⟩ ++ ⟨s1.toArray⟩ : ByteArray) ++ ⟨s2.toArray⟩)) = _
    rw [bcat, bcat]; simp
end Go.Proofs.YtpiclilonkaffaaDoor
