/- strconv.FormatUint in the bases 8 and 16: its calls. -/
import Derived.Lib.LaidTab
import Derived.Lib.VarintBits
import Derived.Test.YtnjocahkiodifaaDoorDigW
namespace Go.Proofs.YtnjocahkiodifaaDoor
open Go.RowKit

/-- The cells of the library's table that the bases 8 and 16 read. -/
structure Tz (w : World) : Prop where
  at7 : w.cell? ⟨4, 7, none⟩ = some (.int .u8 3)
  at15 : w.cell? ⟨4, 15, none⟩ = some (.int .u8 4)
theorem cell_keep {w w' : World} {b : Nat} {j : Nat} {v : Value} (h : w.cell? ⟨b, j, none⟩ = some v) (hb : Below w.heap.size w w') : w'.cell? ⟨b, j, none⟩ = some v := by
  have hl : b < w.heap.size := by
    rcases Nat.lt_or_ge b w.heap.size with h' | h'
    · exact h'
    · simp [World.cell?, Array.getElem?_eq_none h'] at h
  unfold World.cell? at *
  rw [hb.block b hl]; exact h
theorem Tz.below {w w' : World} (h : Tz w) (hb : Below w.heap.size w w') : Tz w' := ⟨cell_keep h.at7 hb, cell_keep h.at15 hb⟩

theorem pow2_8 (w : World) : Calls Tryd.prog 140 #[.int .i64 8] w fun e w' => e = .returned (.bool true) ∧ w' = w := by
  go_enter Tryd.func140, Tryd.ntmps140
  go_wp2
  go_ret
  exact ⟨rfl, rfl⟩
theorem tz64_8 (w : World) (hz : w.cell? ⟨4, 7, none⟩ = some (.int .u8 3)) : Calls Tryd.prog 161 #[.int .u64 8] w fun e w' => e = .returned (.int .i64 3) ∧ w' = w := by
  have e1 : bits .and .u64 8 (IntKind.u64.wrap (-8)) = 8 := by decide +kernel
  go_enter Tryd.func161, Tryd.ntmps161
  go_wp2
  go_ret
  exact ⟨rfl, rfl⟩
theorem tz_8 (w : World) (hz : w.cell? ⟨4, 7, none⟩ = some (.int .u8 3)) : Calls Tryd.prog 141 #[.int .u64 8] w fun e w' => e = .returned (.int .i64 3) ∧ w' = w := by
  go_enter Tryd.func141, Tryd.ntmps141
  go_wp2_with fail
  refine (tz64_8 w hz).mono ?_
  rintro e w1 ⟨rfl, rfl⟩
  go_wp2
  go_ret
  exact ⟨rfl, rfl⟩

theorem index_dig {P : Program} {T : TypeId} (hT : P.underlying T = some .string) (κ : IntKind) (d : Nat) (hd : d < 16) (W : World) :
    (Instr.index T (.string ⟨#[48, 49, 50, 51, 52, 53, 54, 55, 56, 57, 97, 98, 99, 100, 101, 102, 103, 104, 105, 106, 107, 108, 109, 110, 111, 112, 113, 114, 115, 116, 117, 118, 119, 120, 121, 122]⟩) (.int κ (d : Int))).run P W = .ok (.int .u8 (dch d).toNat) W := by
  have hs : ∀ i : Fin 16, (⟨#[48, 49, 50, 51, 52, 53, 54, 55, 56, 57, 97, 98, 99, 100, 101, 102, 103, 104, 105, 106, 107, 108, 109, 110, 111, 112, 113, 114, 115, 116, 117, 118, 119, 120, 121, 122]⟩ : ByteArray)[i.val]? = some (dch i.val) := by decide +kernel
  have h0 : (0 : Int) ≤ d := by omega
  have h1 : (d : Int).toNat = d := by omega
  simp only [Instr.index, asIntOf, run_underlying hT, Sem.run_bind, Sem.run_pure, Result.andThen_ok, if_pos h0, h1, hs ⟨d, hd⟩]

set_option maxRecDepth 20000 in
theorem formatBits8_calls (n : Nat) (hn : n < 18446744073709551616) (w : World) (hz : w.cell? ⟨4, 7, none⟩ = some (.int .u8 3)) :
    Calls Tryd.prog 105 #[.slice none 0 0, .int .u64 n, .int .i64 8, .bool false, .bool false] w fun e w' => e = .returned (.tuple #[.slice none 0 0, .string ⟨(digL 8 n).toArray⟩]) ∧ Below w.heap.size w w' := by
  go_enter Tryd.func105, Tryd.ntmps105
  go_wp2_with fail
  refine (pow2_8 _).mono ?_
  rintro e w1 ⟨rfl, rfl⟩
  go_wp2_with fail
  refine (tz_8 _ (cell_keep hz ((Below.refl _ _).alloc (Nat.le_refl _) _))).mono ?_
  rintro e w1 ⟨rfl, rfl⟩
  go_wp2_with fail
  go_loopg [1, 13] 65 (fun g vn vi wr => ∃ (j m : Nat) (pre : List Value) (x : Value) (l : List UInt8), j + 1 ≤ g ∧ j ≤ 64 ∧ m < 2 ^ j ∧ vn = .int .u64 m ∧ vi = .int .i64 ((j : Int) + 1) ∧ pre.length = j ∧
    Aside (wr.heap[w.heap.size]? = some (.cells (pre ++ x :: l.map fun b => Value.int .u8 b.toNat).toArray 202 (0, 0)) ∧ Below w.heap.size w wr ∧ l.length = 64 - j ∧ digL 8 m ++ l = digL 8 n))
  case atStart =>
    refine ⟨64, n, List.replicate 64 (.int .u8 0), .int .u8 0, [], by omega, by omega, hn, rfl, rfl, rfl, ⟨?_, (Below.refl _ _).alloc (Nat.le_refl _) _, rfl, List.append_nil _⟩⟩
    rw [show (List.replicate 64 (Value.int .u8 0) ++ Value.int .u8 0 :: ([] : List UInt8).map fun b => Value.int .u8 b.toNat).toArray = Tryd.zeroCells202 by kernel_rfl]
    exact heap_alloc_new _ _
  case round =>
    obtain ⟨j, m, pre, x, l, hgk, hj, hm, rfl, rfl, hp, HA⟩ := hrel
    have hm' := Lib.hid hm
    have hm2 : m < 18446744073709551616 := Nat.lt_of_lt_of_le hm (Nat.pow_le_pow_right (i := j) (j := 64) (by omega) (by omega))
    clear hm
    have c : wr.cell? ⟨w.heap.size, j, none⟩ = some x := by
      rw [cellOf HA.out.1 j]; simp [← hp]
    have f := frozenOf HA.out.1
    have HP := Lib.hid hp
    clear hp
    have hal : Tryd.prog.arrayLen 202 = 65 := by simp [Program.arrayLen, Tryd.underlying202]
    have hsl : ∀ W, (Instr.sliceAt 202 (.pointer (some ⟨w.heap.size, 0, none⟩)) (some (.int .i64 (j : Int))) none none).run Tryd.prog W = .ok (.slice (some ⟨w.heap.size, j, none⟩) (65 - j) (65 - j)) W := fun W => by
      rw [run_sliceAt_array_l W 202 ⟨w.heap.size, 0, none⟩ (by simp [Program.arrayLen, Program.elem, Tryd.underlying202]) .i64 (j : Int) (by omega) (by rw [hal]; omega)]
      go_simp
      omega
    clear hal
    by_cases h8 : m < 8
    · have hi : ∀ W, (Instr.index 9 (.string ⟨#[48, 49, 50, 51, 52, 53, 54, 55, 56, 57, 97, 98, 99, 100, 101, 102, 103, 104, 105, 106, 107, 108, 109, 110, 111, 112, 113, 114, 115, 116, 117, 118, 119, 120, 121, 122]⟩) (.int .u64 (m : Int))).run Tryd.prog W = .ok (.int .u8 (dch m).toNat) W := fun W => index_dig Tryd.underlying9 .u64 m (by omega) W
      have hcv : (convert 84 9 (.slice (some ⟨w.heap.size, j, none⟩) (65 - j) (65 - j))).run Tryd.prog (wr.setCell ⟨w.heap.size, j, none⟩ (.int .u8 (dch m).toNat)) = .ok (.string ⟨(digL 8 n).toArray⟩) (wr.setCell ⟨w.heap.size, j, none⟩ (.int .u8 (dch m).toNat)) := by
        obtain ⟨a1, a2, a3, a4⟩ := HA.out
        rw [digL_small h8] at a4
        have hlen : (dch m :: l).length = 65 - j := by rw [List.length_cons, a3]; omega
        have h := run_convert_bytes_back (P := Tryd.prog) (wr.setCell ⟨w.heap.size, j, none⟩ (.int .u8 (dch m).toNat)) 84 9 5 ⟨w.heap.size, j, none⟩ (65 - j) (dch m :: l) Tryd.underlying84 Tryd.underlying5 Tryd.underlying9 (fun i hi => by
          rw [Lib.add_plain]
          cases i with
          | zero => exact World.cell?_setCell_same _ _ _ c
          | succ i =>
            rw [World.cell?_setCell_other _ _ _ _ (by simp), cellOf a1]
            have := HP.out
            have hi' : i < l.length := by simpa using hi
            simp [this, show j + (i + 1) - j = i + 1 by omega, hi'])
        rw [hlen] at h
        rw [h, ← a4]; rfl
      go_wp2_with fail
      go_ret2
      exact ⟨rfl, HA.out.2.1.setCell (Nat.le_refl _) _⟩
    · have hi : ∀ W, (Instr.index 9 (.string ⟨#[48, 49, 50, 51, 52, 53, 54, 55, 56, 57, 97, 98, 99, 100, 101, 102, 103, 104, 105, 106, 107, 108, 109, 110, 111, 112, 113, 114, 115, 116, 117, 118, 119, 120, 121, 122]⟩) (.int .u64 ((m : Int) % 8))).run Tryd.prog W = .ok (.int .u8 (dch (m % 8)).toNat) W := fun W => by
        rw [show (m : Int) % 8 = ((m % 8 : Nat) : Int) by omega]
        exact index_dig Tryd.underlying9 .u64 (m % 8) (by omega) W
      have e2 : bits .and .u64 (m : Int) 7 = ((m % 8 : Nat) : Int) := bits_mask .u64 64 (by decide) wraps_u64 3 (by decide) m (by omega) (by omega)
      go_wp2_with fail
      obtain ⟨a1, a2, a3, a4⟩ := HA.out
      have hj0 : j ≠ 0 := fun e => by
        subst e
        have := hm'.out
        simp at this; omega
      obtain ⟨i, rfl⟩ : ∃ i, j = i + 1 := ⟨j - 1, by omega⟩
      obtain ⟨pre', y, rfl⟩ : ∃ p y, pre = p ++ [y] := ⟨pre.dropLast, pre.getLast (by intro e; rw [e] at HP; exact absurd HP.out (by simp)), (List.dropLast_concat_getLast _).symm⟩
      go_roundg (gk - 1)
      case measure => omega
      case rel =>
        refine ⟨i, m / 8, pre', y, dch (m % 8) :: l, by omega, by omega, ?_, by go_num, by go_num, by simpa using HP.out, ⟨?_, a2.setCell (Nat.le_refl _) _, by rw [List.length_cons, a3]; omega, ?_⟩⟩
        · have := hm'.out
          rw [Nat.pow_succ] at this; omega
        · rw [heap_setCell a1]
          have := HP.out
          congr 1
          simp at this
          simp [← this]
        · rw [digL_big (by omega) (by omega), List.append_assoc] at a4
          exact a4
theorem pow2_16 (w : World) : Calls Tryd.prog 140 #[.int .i64 16] w fun e w' => e = .returned (.bool true) ∧ w' = w := by
  go_enter Tryd.func140, Tryd.ntmps140
  go_wp2
  go_ret
  exact ⟨rfl, rfl⟩
theorem tz64_16 (w : World) (hz : w.cell? ⟨4, 15, none⟩ = some (.int .u8 4)) : Calls Tryd.prog 161 #[.int .u64 16] w fun e w' => e = .returned (.int .i64 4) ∧ w' = w := by
  have e1 : bits .and .u64 16 (IntKind.u64.wrap (-16)) = 16 := by decide +kernel
  go_enter Tryd.func161, Tryd.ntmps161
  go_wp2
  go_ret
  exact ⟨rfl, rfl⟩
theorem tz_16 (w : World) (hz : w.cell? ⟨4, 15, none⟩ = some (.int .u8 4)) : Calls Tryd.prog 141 #[.int .u64 16] w fun e w' => e = .returned (.int .i64 4) ∧ w' = w := by
  go_enter Tryd.func141, Tryd.ntmps141
  go_wp2_with fail
  refine (tz64_16 w hz).mono ?_
  rintro e w1 ⟨rfl, rfl⟩
  go_wp2
  go_ret
  exact ⟨rfl, rfl⟩

set_option maxRecDepth 20000 in
theorem formatBits16_calls (n : Nat) (hn : n < 18446744073709551616) (w : World) (hz : w.cell? ⟨4, 15, none⟩ = some (.int .u8 4)) :
    Calls Tryd.prog 105 #[.slice none 0 0, .int .u64 n, .int .i64 16, .bool false, .bool false] w fun e w' => e = .returned (.tuple #[.slice none 0 0, .string ⟨(digL 16 n).toArray⟩]) ∧ Below w.heap.size w w' := by
  go_enter Tryd.func105, Tryd.ntmps105
  go_wp2_with fail
  refine (pow2_16 _).mono ?_
  rintro e w1 ⟨rfl, rfl⟩
  go_wp2_with fail
  refine (tz_16 _ (cell_keep hz ((Below.refl _ _).alloc (Nat.le_refl _) _))).mono ?_
  rintro e w1 ⟨rfl, rfl⟩
  go_wp2_with fail
  go_loopg [1, 13] 65 (fun g vn vi wr => ∃ (j m : Nat) (pre : List Value) (x : Value) (l : List UInt8), j + 1 ≤ g ∧ j ≤ 64 ∧ m < 2 ^ j ∧ vn = .int .u64 m ∧ vi = .int .i64 ((j : Int) + 1) ∧ pre.length = j ∧
    Aside (wr.heap[w.heap.size]? = some (.cells (pre ++ x :: l.map fun b => Value.int .u8 b.toNat).toArray 202 (0, 0)) ∧ Below w.heap.size w wr ∧ l.length = 64 - j ∧ digL 16 m ++ l = digL 16 n))
  case atStart =>
    refine ⟨64, n, List.replicate 64 (.int .u8 0), .int .u8 0, [], by omega, by omega, hn, rfl, rfl, rfl, ⟨?_, (Below.refl _ _).alloc (Nat.le_refl _) _, rfl, List.append_nil _⟩⟩
    rw [show (List.replicate 64 (Value.int .u8 0) ++ Value.int .u8 0 :: ([] : List UInt8).map fun b => Value.int .u8 b.toNat).toArray = Tryd.zeroCells202 by kernel_rfl]
    exact heap_alloc_new _ _
  case round =>
    obtain ⟨j, m, pre, x, l, hgk, hj, hm, rfl, rfl, hp, HA⟩ := hrel
    have hm' := Lib.hid hm
    have hm2 : m < 18446744073709551616 := Nat.lt_of_lt_of_le hm (Nat.pow_le_pow_right (i := j) (j := 64) (by omega) (by omega))
    clear hm
    have c : wr.cell? ⟨w.heap.size, j, none⟩ = some x := by
      rw [cellOf HA.out.1 j]; simp [← hp]
    have f := frozenOf HA.out.1
    have HP := Lib.hid hp
    clear hp
    have hal : Tryd.prog.arrayLen 202 = 65 := by simp [Program.arrayLen, Tryd.underlying202]
    have hsl : ∀ W, (Instr.sliceAt 202 (.pointer (some ⟨w.heap.size, 0, none⟩)) (some (.int .i64 (j : Int))) none none).run Tryd.prog W = .ok (.slice (some ⟨w.heap.size, j, none⟩) (65 - j) (65 - j)) W := fun W => by
      rw [run_sliceAt_array_l W 202 ⟨w.heap.size, 0, none⟩ (by simp [Program.arrayLen, Program.elem, Tryd.underlying202]) .i64 (j : Int) (by omega) (by rw [hal]; omega)]
      go_simp
      omega
    clear hal
    by_cases h8 : m < 16
    · have hi : ∀ W, (Instr.index 9 (.string ⟨#[48, 49, 50, 51, 52, 53, 54, 55, 56, 57, 97, 98, 99, 100, 101, 102, 103, 104, 105, 106, 107, 108, 109, 110, 111, 112, 113, 114, 115, 116, 117, 118, 119, 120, 121, 122]⟩) (.int .u64 (m : Int))).run Tryd.prog W = .ok (.int .u8 (dch m).toNat) W := fun W => index_dig Tryd.underlying9 .u64 m (by omega) W
      have hcv : (convert 84 9 (.slice (some ⟨w.heap.size, j, none⟩) (65 - j) (65 - j))).run Tryd.prog (wr.setCell ⟨w.heap.size, j, none⟩ (.int .u8 (dch m).toNat)) = .ok (.string ⟨(digL 16 n).toArray⟩) (wr.setCell ⟨w.heap.size, j, none⟩ (.int .u8 (dch m).toNat)) := by
        obtain ⟨a1, a2, a3, a4⟩ := HA.out
        rw [digL_small h8] at a4
        have hlen : (dch m :: l).length = 65 - j := by rw [List.length_cons, a3]; omega
        have h := run_convert_bytes_back (P := Tryd.prog) (wr.setCell ⟨w.heap.size, j, none⟩ (.int .u8 (dch m).toNat)) 84 9 5 ⟨w.heap.size, j, none⟩ (65 - j) (dch m :: l) Tryd.underlying84 Tryd.underlying5 Tryd.underlying9 (fun i hi => by
          rw [Lib.add_plain]
          cases i with
          | zero => exact World.cell?_setCell_same _ _ _ c
          | succ i =>
            rw [World.cell?_setCell_other _ _ _ _ (by simp), cellOf a1]
            have := HP.out
            have hi' : i < l.length := by simpa using hi
            simp [this, show j + (i + 1) - j = i + 1 by omega, hi'])
        rw [hlen] at h
        rw [h, ← a4]; rfl
      go_wp2_with fail
      go_ret2
      exact ⟨rfl, HA.out.2.1.setCell (Nat.le_refl _) _⟩
    · have hi : ∀ W, (Instr.index 9 (.string ⟨#[48, 49, 50, 51, 52, 53, 54, 55, 56, 57, 97, 98, 99, 100, 101, 102, 103, 104, 105, 106, 107, 108, 109, 110, 111, 112, 113, 114, 115, 116, 117, 118, 119, 120, 121, 122]⟩) (.int .u64 ((m : Int) % 16))).run Tryd.prog W = .ok (.int .u8 (dch (m % 16)).toNat) W := fun W => by
        rw [show (m : Int) % 16 = ((m % 16 : Nat) : Int) by omega]
        exact index_dig Tryd.underlying9 .u64 (m % 16) (by omega) W
      have e2 : bits .and .u64 (m : Int) 15 = ((m % 16 : Nat) : Int) := bits_mask .u64 64 (by decide) wraps_u64 4 (by decide) m (by omega) (by omega)
      go_wp2_with fail
      obtain ⟨a1, a2, a3, a4⟩ := HA.out
      have hj0 : j ≠ 0 := fun e => by
        subst e
        have := hm'.out
        simp at this; omega
      obtain ⟨i, rfl⟩ : ∃ i, j = i + 1 := ⟨j - 1, by omega⟩
      obtain ⟨pre', y, rfl⟩ : ∃ p y, pre = p ++ [y] := ⟨pre.dropLast, pre.getLast (by intro e; rw [e] at HP; exact absurd HP.out (by simp)), (List.dropLast_concat_getLast _).symm⟩
      go_roundg (gk - 1)
      case measure => omega
      case rel =>
        refine ⟨i, m / 16, pre', y, dch (m % 16) :: l, by omega, by omega, ?_, by go_num, by go_num, by simpa using HP.out, ⟨?_, a2.setCell (Nat.le_refl _) _, by rw [List.length_cons, a3]; omega, ?_⟩⟩
        · have := hm'.out
          rw [Nat.pow_succ] at this; omega
        · rw [heap_setCell a1]
          have := HP.out
          congr 1
          simp at this
          simp [← this]
        · rw [digL_big (by omega) (by omega), List.append_assoc] at a4
          exact a4

theorem innerFormatUint8 (n : Nat) (hn : n < 18446744073709551616) (w : World) (hz : Tz w) :
    Calls Tryd.prog 72 #[.int .u64 n, .int .i64 8] w fun e w' => e = .returned (.string ⟨(digL 8 n).toArray⟩) ∧ Below w.heap.size w w' := by
  have H := formatBits8_calls n hn w hz.at7
  generalize digL 8 n = l at *
  go_enter Tryd.func72, Tryd.ntmps72
  go_wp2_with fail
  refine H.mono ?_
  rintro e w1 ⟨rfl, hb⟩
  go_wp2
  go_ret
  exact ⟨rfl, hb⟩
theorem innerFormatUint16 (n : Nat) (hn : n < 18446744073709551616) (w : World) (hz : Tz w) :
    Calls Tryd.prog 72 #[.int .u64 n, .int .i64 16] w fun e w' => e = .returned (.string ⟨(digL 16 n).toArray⟩) ∧ Below w.heap.size w w' := by
  have H := formatBits16_calls n hn w hz.at15
  generalize digL 16 n = l at *
  go_enter Tryd.func72, Tryd.ntmps72
  go_wp2_with fail
  refine H.mono ?_
  rintro e w1 ⟨rfl, hb⟩
  go_wp2
  go_ret
  exact ⟨rfl, hb⟩
theorem FormatUint8 (n : Nat) (hn : n < 18446744073709551616) (w : World) (hz : Tz w) :
    Calls Tryd.prog 48 #[.int .u64 n, .int .i64 8] w fun e w' => e = .returned (.string ⟨(digL 8 n).toArray⟩) ∧ Below w.heap.size w w' := by
  have H := innerFormatUint8 n hn w hz
  generalize digL 8 n = l at *
  go_enter Tryd.func48, Tryd.ntmps48
  go_wp2_with fail
  refine H.mono ?_
  rintro e w1 ⟨rfl, hb⟩
  go_wp2
  go_ret
  exact ⟨rfl, hb⟩
theorem FormatUint16 (n : Nat) (hn : n < 18446744073709551616) (w : World) (hz : Tz w) :
    Calls Tryd.prog 48 #[.int .u64 n, .int .i64 16] w fun e w' => e = .returned (.string ⟨(digL 16 n).toArray⟩) ∧ Below w.heap.size w w' := by
  have H := innerFormatUint16 n hn w hz
  generalize digL 16 n = l at *
  go_enter Tryd.func48, Tryd.ntmps48
  go_wp2_with fail
  refine H.mono ?_
  rintro e w1 ⟨rfl, hb⟩
  go_wp2
  go_ret
  exact ⟨rfl, hb⟩
theorem Oct_calls (n : Nat) (hn : n < 18446744073709551616) (w : World) (hz : Tz w) :
    Calls Tryd.prog 18 #[.int .u64 n] w fun e w' => e = .returned (.string ⟨(digL 8 n).toArray⟩) ∧ Below w.heap.size w w' := by
  have H := FormatUint8 n hn w hz
  generalize digL 8 n = l at *
  go_enter Tryd.func18, Tryd.ntmps18
  go_wp2_with fail
  refine H.mono ?_
  rintro e w1 ⟨rfl, hb⟩
  go_wp2
  go_ret
  exact ⟨rfl, hb⟩
theorem Hex_calls (n : Nat) (hn : n < 18446744073709551616) (w : World) (hz : Tz w) :
    Calls Tryd.prog 20 #[.int .u64 n] w fun e w' => e = .returned (.string ⟨(digL 16 n).toArray⟩) ∧ Below w.heap.size w w' := by
  have H := FormatUint16 n hn w hz
  generalize digL 16 n = l at *
  go_enter Tryd.func20, Tryd.ntmps20
  go_wp2_with fail
  refine H.mono ?_
  rintro e w1 ⟨rfl, hb⟩
  go_wp2
  go_ret
  exact ⟨rfl, hb⟩
end Go.Proofs.YtnjocahkiodifaaDoor
