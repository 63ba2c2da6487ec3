/- strings.Builder: its writing methods, wherever in a block the builder stands. -/
import Derived.Test.YtpiclilonkaffaaDoorBase
import Derived.Lib.Builder
import Derived.Lib.AppendStr
import Derived.Lib.UnsafeStr
import Derived.Shelf.Strings.Builder1
namespace Go.Proofs.YtpiclilonkaffaaDoor
open Go.RowKit

theorem infoBuilder : (Tryd.prog.info? 89).map (·.size) = some 2 := by kernel_rfl
theorem infoByte : (Tryd.prog.info? 5).map (fun i => (i.zero, i.size, i.bytes)) = some (some (.int .u8 0), 1, 1) := by kernel_rfl

/-- Whether a builder may stand at place o of a block of type T of n cells. -/
def BldLies (T n o : Nat) : Prop := liesAt Tryd.prog Tryd.prog.depth T (n / Tryd.prog.cellsOf T) o 89 1 = true

/-- The block b, of type T, holds cs; at its place o stands a builder that holds the bytes l. -/
structure BldAt (T B b o : Nat) (cs : Array Value) (l : List UInt8) (w : World) : Prop where
  block : w.heap[b]? = some (.cells cs T (0, 0))
  addr : cs[o]? = some (.pointer none) ∨ cs[o]? = some (.pointer (some ⟨b, o, none⟩))
  buf : ∃ v, cs[o + 1]? = some v ∧ w.ownsRow B 5 1 v l.length (Lib.byteCells l) ∧ v.ownBlock ≠ some b

set_option maxRecDepth 100000 in
set_option maxHeartbeats 1000000 in
theorem copyCheck_calls (T b o : Nat) (cs : Array Value) (w : World) (hb : w.heap[b]? = some (.cells cs T (0, 0)))
    (ha : cs[o]? = some (.pointer none) ∨ cs[o]? = some (.pointer (some ⟨b, o, none⟩))) (hl : BldLies T cs.size o) :
    Calls Tryd.prog 61 #[.pointer (some ⟨b, o, none⟩)] w fun e w' => e = .returned (.tuple #[]) ∧
      w'.heap[b]? = some (.cells (cs.setIfInBounds o (.pointer (some ⟨b, o, none⟩))) T (0, 0)) ∧ Frm (fun i => i = b) w w' ∧ w'.heap.size = w.heap.size := by
  obtain ⟨j, hj, hjs⟩ := Option.map_eq_some_iff.1 infoBuilder
  have hsh : w.shape? b = some (T, cs.size) := by simp [World.shape?, hb]
  have ho : o < cs.size := by
    rcases Nat.lt_or_ge o cs.size with h | h
    · exact h
    · rw [Array.getElem?_eq_none h] at ha; simp at ha
  rcases ha with ha | ha
  · have c0 : w.cell? ⟨b, o, none⟩ = some (.pointer none) := by rw [cellOf hb]; exact ha
    have f0 : w.frozen? ⟨b, o, none⟩ = false := frozenOf hb o
    clear ha
    have HL := Lib.hid hl; clear hl
    have HB := Lib.hid hb; clear hb
    go_enter Tryd.func61, Tryd.ntmps61
    go_wp2
    rw [Lib.run_to_unsafe w ⟨b, o, none⟩ Tryd.underlying87 Tryd.underlying138 hj (by rw [hjs]; decide) hsh ho]
    simp only [Result.andThen]
    rw [Oper.upon_value]
    go_wp2
    rw [run_callFunc_extern (f := 88) rfl (by kernel_rfl) (by kernel_rfl) (by kernel_rfl) (e := Extern.AbiNoEscape.same) (by kernel_rfl)]
    rw [Lib.run_noEscape]
    simp only [Result.andThen]
    rw [Oper.upon_value]
    go_wp2
    rw [Lib.run_from_unsafe w ⟨b, o, none⟩ Tryd.underlying138 Tryd.underlying87 hj hsh HL.out]
    simp only [Result.andThen]
    rw [Oper.upon_value]
    go_wp2
    go_end0
    exact ⟨rfl, heap_setCell HB.out _ _, Frm.setCell w b o _, size_setCell ..⟩
  · have c0 : w.cell? ⟨b, o, none⟩ = some (.pointer (some ⟨b, o, none⟩)) := by rw [cellOf hb]; exact ha
    have e1 : cs.setIfInBounds o (.pointer (some ⟨b, o, none⟩)) = cs := by
      apply Array.ext_getElem?
      intro i
      rw [Array.getElem?_setIfInBounds]
      split
      · rename_i h; subst h; first | exact ha.symm | (rw [if_pos ho]; exact ha.symm)
      · rfl
    have HE := Lib.hid e1; clear e1
    have HB := Lib.hid hb; clear hb
    clear ha
    go_enter Tryd.func61, Tryd.ntmps61
    go_wp2
    rw [Lib.run_neq_ptr_same w _ Tryd.underlying87 hj]
    go_wp2
    go_end0
    exact ⟨rfl, by rw [HE.out]; exact HB.out, Frm.refl _ _, rfl⟩

/-- What a writing method does to a builder: its bytes are l', in the same block or a new one; nothing else is written. -/
structure BldNow (T B b o : Nat) (cs : Array Value) (v : Value) (l' : List UInt8) (w w' : World) : Prop where
  now : ∃ v', BldAt T B b o ((cs.setIfInBounds o (.pointer (some ⟨b, o, none⟩))).setIfInBounds (o + 1) v') l' w' ∧ w'.heap[b]? = some (.cells ((cs.setIfInBounds o (.pointer (some ⟨b, o, none⟩))).setIfInBounds (o + 1) v') T (0, 0))
  frame : Frm (fun i => i = b ∨ some i = v.ownBlock) w w'

theorem BldAt.lt {T B b o : Nat} {cs : Array Value} {l : List UInt8} {w : World} (h : BldAt T B b o cs l w) : o + 1 < cs.size := by
  obtain ⟨v, hv, _⟩ := h.buf
  rcases Nat.lt_or_ge (o + 1) cs.size with h' | h'
  · exact h'
  · rw [Array.getElem?_eq_none h'] at hv; cases hv

set_option maxRecDepth 100000 in
set_option maxHeartbeats 2000000 in
theorem WriteString_calls (T B b o : Nat) (cs : Array Value) (l : List UInt8) (s : ByteArray) (w : World) (h : BldAt T B b o cs l w) (hl : BldLies T cs.size o) (hne : T ≠ 5)
    (hlen : l.length + s.size ≤ 140737488355328) (hBw : B ≤ w.heap.size) :
    Calls Tryd.prog 36 #[.pointer (some ⟨b, o, none⟩), .string s] w fun e w' => e = .returned (.tuple #[.int .i64 s.size, .nilIface]) ∧
      ∃ v, cs[o + 1]? = some v ∧ BldNow T B b o cs v (l ++ s.data.toList) w w' := by
  obtain ⟨i0, hi, hz0, hz1, hz2⟩ := info_parts infoByte
  have ho := h.lt
  obtain ⟨v, hv, hown, hvb⟩ := h.buf
  go_enter Tryd.func36, Tryd.ntmps36
  go_wp2_with (go_at_call 61; refine (copyCheck_calls T b o cs _ h.block h.addr hl).mono ?_)
  rintro e w1 ⟨rfl, hb1, hf1, hs1⟩
  have c1 : w1.cell? ⟨b, o + 1, none⟩ = some v := by rw [cellOf hb1, Array.getElem?_setIfInBounds_ne (by omega)]; exact hv
  have hown1 : w1.ownsRow B 5 1 v l.length (Lib.byteCells l) := hown.kept (row := some b) ⟨hf1.os, hf1.tape, hf1.output, hf1.size, fun k hk hs => hf1.block k hk fun e => hs (by rw [e])⟩ (.inr hvb)
  go_wp2_with (at_builtin; refine Lib.wpList_append_own_string _ rfl _ _ 86 9 rfl B 5 i0 Tryd.underlying86 Tryd.underlying9 hi hz0 hz1 hz2 _ _ _ rfl hown1 s rfl ?c3 ?c4 ?c5 ?_)
  case c3 => unfold maxLen; omega
  case c4 => omega
  case c5 => omega
  intro v' w2 hown2 hgrow _
  have hlt : b < w1.heap.size := ltOf hb1
  have hb2 : w2.heap[b]? = some (.cells (cs.setIfInBounds o (.pointer (some ⟨b, o, none⟩))) T (0, 0)) := by
    rw [hgrow.block b hlt (fun e => hvb e.symm)]
    exact hb1
  have d1 : w2.cell? ⟨b, o + 1, none⟩ = some v := by rw [cellOf hb2, Array.getElem?_setIfInBounds_ne (by omega)]; exact hv
  have f1 : w2.frozen? ⟨b, o + 1, none⟩ = false := frozenOf hb2 (o + 1)
  obtain ⟨ao, n', cap, rfl⟩ : ∃ ao n' cap, v' = .slice ao n' cap := by
    rcases hown2.2 with ⟨hv, _⟩ | ⟨g, cap, cur, hv, _⟩
    · exact ⟨_, _, _, hv⟩
    · exact ⟨_, _, _, hv⟩
  go_wp2
  go_ret2
  have hb3 := heap_setCell hb2 (o + 1) (.slice ao n' cap)
  have hvb2 : (Value.slice ao n' cap).ownBlock ≠ some b := by
    intro e
    rcases hown2.2 with ⟨hv, _⟩ | ⟨g, cap, cur, hv, _, hg, _⟩
    · rw [hv] at e; simp [Value.ownBlock] at e
    · rw [hv] at e
      simp [Value.ownBlock] at e
      subst e
      rw [hb2] at hg
      injection hg with hg
      injection hg with _ hg
      exact hne hg
  refine ⟨rfl, v, hv, ⟨_, ⟨hb3, ?_, ⟨_, ?_, ?_, hvb2⟩⟩, hb3⟩, ?_⟩
  · right
    rw [Array.getElem?_setIfInBounds_ne (by omega), Array.getElem?_setIfInBounds_self_of_lt (by omega)]
  · rw [Array.getElem?_setIfInBounds_self_of_lt (by simpa using ho)]
  · have e1 : Lib.byteCells (l ++ s.data.toList) = Lib.byteCells l ++ Lib.strCells s := by simp [Lib.byteCells, Lib.strCells]
    have e2 : (l ++ s.data.toList).length = l.length + s.size := by rw [List.length_append, Array.length_toList]; rfl
    rw [e1, e2]
    refine hown2.kept (row := some b) ⟨rfl, rfl, rfl, by rw [size_setCell]; exact Nat.le_refl _, fun k hk hs => heap_setCell_ne fun e => hs (by rw [e])⟩ (.inr hvb2)
  · have F1 : Frm (fun i => i = b ∨ some i = v.ownBlock) w w1 := hf1.mono fun i _ h => .inl h
    have F2 : Frm (fun i => i = b ∨ some i = v.ownBlock) w1 w2 := (Frm.of_grown hgrow).mono fun i _ h => .inr h
    exact (F1.trans F2).trans ((Frm.setCell _ _ _ _).mono fun i _ h => .inl h)
set_option maxRecDepth 100000 in
set_option maxHeartbeats 2000000 in
theorem WriteByte_calls (T B b o : Nat) (cs : Array Value) (l : List UInt8) (c : UInt8) (w : World) (h : BldAt T B b o cs l w) (hl : BldLies T cs.size o) (hne : T ≠ 5)
    (hlen : l.length + 1 ≤ 140737488355328) (hBw : B ≤ w.heap.size) :
    Calls Tryd.prog 37 #[.pointer (some ⟨b, o, none⟩), .int .u8 c.toNat] w fun e w' => e = .returned .nilIface ∧
      ∃ v, cs[o + 1]? = some v ∧ BldNow T B b o cs v (l ++ [c]) w w' := by
  obtain ⟨i0, hi, hz0, hz1, hz2⟩ := info_parts infoByte
  have ho := h.lt
  obtain ⟨v, hv, hown, hvb⟩ := h.buf
  go_enter Tryd.func37, Tryd.ntmps37
  go_wp2_with (go_at_call 61; refine (copyCheck_calls T b o cs _ h.block h.addr hl).mono ?_)
  rintro e w1 ⟨rfl, hb1, hf1, -⟩
  have hBw1 : B ≤ w1.heap.size := Nat.le_trans hBw hf1.size
  have c1 : w1.cell? ⟨b, o + 1, none⟩ = some v := by rw [cellOf hb1, Array.getElem?_setIfInBounds_ne (by omega)]; exact hv
  have hown1 : w1.ownsRow B 5 1 v l.length (Lib.byteCells l) := hown.kept (row := some b) ⟨hf1.os, hf1.tape, hf1.output, hf1.size, fun k hk hs => hf1.block k hk fun e => hs (by rw [e])⟩ (.inr hvb)
  go_wp2_with (at_builtin; refine wpList_append_own _ rfl _ _ 86 rfl B 5 i0 (.int .u8 0) 1 1 Tryd.underlying86 hi hz0 hz1 hz2 rfl (by decide) _ _ _ rfl (hown1.alloc _) ⟨w1.heap.size, 0, none⟩ 1 1 [.int .u8 c.toNat] rfl rfl ?c1 ?c2 ?c3 ?c4 ?c5 ?_)
  case c1 =>
    intro j u hj
    match j, hj with
    | 0, hj => simp at hj; subst hj; simp [Addr.add]
  case c2 => intro u hu; simp at hu; subst hu; rfl
  case c3 => unfold maxLen; omega
  case c4 => omega
  case c5 => simp; omega
  intro v' w2 hown2 hgrow _
  have hlt : b < w1.heap.size := ltOf hb1
  have hb2 : w2.heap[b]? = some (.cells (cs.setIfInBounds o (.pointer (some ⟨b, o, none⟩))) T (0, 0)) := by
    rw [hgrow.block b (by simp; omega) (fun e => hvb e.symm), heap_alloc_old _ _ hlt]
    exact hb1
  have d1 : w2.cell? ⟨b, o + 1, none⟩ = some v := by rw [cellOf hb2, Array.getElem?_setIfInBounds_ne (by omega)]; exact hv
  have f1 : w2.frozen? ⟨b, o + 1, none⟩ = false := frozenOf hb2 (o + 1)
  obtain ⟨ao, n', cap, rfl⟩ : ∃ ao n' cap, v' = .slice ao n' cap := by
    rcases hown2.2 with ⟨hv, _⟩ | ⟨g, cap, cur, hv, _⟩
    · exact ⟨_, _, _, hv⟩
    · exact ⟨_, _, _, hv⟩
  go_wp2
  go_ret
  have hb3 := heap_setCell hb2 (o + 1) (.slice ao n' cap)
  have hvb2 : (Value.slice ao n' cap).ownBlock ≠ some b := by
    intro e
    rcases hown2.2 with ⟨hv, _⟩ | ⟨g, cap, cur, hv, _, hg, _⟩
    · rw [hv] at e; simp [Value.ownBlock] at e
    · rw [hv] at e
      simp [Value.ownBlock] at e
      subst e
      rw [hb2] at hg
      injection hg with hg
      injection hg with _ hg
      exact hne hg
  refine ⟨rfl, v, hv, ⟨_, ⟨hb3, ?_, ⟨_, ?_, ?_, hvb2⟩⟩, hb3⟩, ?_⟩
  · right
    rw [Array.getElem?_setIfInBounds_ne (by omega), Array.getElem?_setIfInBounds_self_of_lt (by omega)]
  · rw [Array.getElem?_setIfInBounds_self_of_lt (by simpa using ho)]
  · have e1 : Lib.byteCells (l ++ [c]) = Lib.byteCells l ++ [.int .u8 c.toNat] := by simp [Lib.byteCells]
    have e2 : (l ++ [c]).length = l.length + 1 := by simp
    rw [e1, e2]
    refine hown2.kept (row := some b) ⟨rfl, rfl, rfl, by rw [size_setCell]; exact Nat.le_refl _, fun k hk hs => heap_setCell_ne fun e => hs (by rw [e])⟩ (.inr hvb2)
  · have F1 : Frm (fun i => i = b ∨ some i = v.ownBlock) w w1 := hf1.mono fun i _ h => .inl h
    have F2 : Frm (fun i => i = b ∨ some i = v.ownBlock) w1 w2 := ((Frm.alloc _ w1 _).trans ((Frm.of_grown hgrow).mono fun i _ h => .inr h))
    exact (F1.trans F2).trans ((Frm.setCell _ _ _ _).mono fun i _ h => .inl h)

end Go.Proofs.YtpiclilonkaffaaDoor
