/- strings.Builder: Len, String. -/
import Derived.Test.YtpiclilonkaffaaDoorBld
namespace Go.Proofs.YtpiclilonkaffaaDoor
open Go.RowKit

theorem cellsByte : Tryd.prog.cellsOf 5 = 1 := by kernel_rfl
theorem Frm.freeze (w : World) (g n : Nat) : Frm (fun i => i = g) w (w.freeze ⟨g, 0, none⟩ n) := by
  unfold World.freeze
  split
  · exact Frm.refl _ _
  · exact ⟨rfl, rfl, rfl, by simp, fun k _ hs => by
      simp only [Array.getElem?_modify]
      rw [if_neg (fun e => hs e.symm)]⟩

set_option maxHeartbeats 2000000 in
set_option maxRecDepth 100000 in
theorem String_nil (T b o : Nat) (cs : Array Value) (w : World) (hbk : w.heap[b]? = some (.cells cs T (0, 0))) (hv : cs[o + 1]? = some (.slice none 0 0)) :
    Calls Tryd.prog 38 #[.pointer (some ⟨b, o, none⟩)] w fun e w' => e = .returned (.string ⟨#[]⟩) ∧ Frm (fun _ => False) w w' := by
  have hUS := fun (W : World) (q : Option Addr) => Lib.run_unsafeString_none (P := Tryd.prog) W 118 3 9 q
  have c1 : w.drew.cell? ⟨b, o + 1, none⟩ = some (.slice none 0 0) := by
    have : w.drew.heap[b]? = some (.cells cs T (0, 0)) := hbk
    rw [cellOf this]; exact hv
  have hSD : (Builtin.unsafeSliceData_ #[86] 118 #[.slice none 0 0]).run Tryd.prog w.drew = .ok (.pointer none) w.drew := rfl
  clear hv hbk
  go_enter Tryd.func38, Tryd.ntmps38
  go_wp2
  go_region
  all_goals (go_wp2; go_ret; exact ⟨rfl, Frm.drew _ _⟩)

set_option maxHeartbeats 2000000 in
set_option maxRecDepth 100000 in
theorem String_noroom (T b o g : Nat) (cs cur : Array Value) (w : World) (hbk : w.heap[b]? = some (.cells cs T (0, 0))) (hv : cs[o + 1]? = some (.slice (some ⟨g, 0, none⟩) 0 0)) (hg : w.heap[g]? = some (.cells cur 5 (0, 0))) :
    Calls Tryd.prog 38 #[.pointer (some ⟨b, o, none⟩)] w fun e w' => e = .returned (.string ⟨#[]⟩) ∧ Frm (fun _ => False) w w' := by
  have hUS := fun (W : World) (q : Option Addr) => Lib.run_unsafeString_none (P := Tryd.prog) W 118 3 9 q
  have hlt : b < w.heap.size := ltOf hbk
  have c1 : w.drew.cell? ⟨b, o + 1, none⟩ = some (.slice (some ⟨g, 0, none⟩) 0 0) := by
    have : w.drew.heap[b]? = some (.cells cs T (0, 0)) := hbk
    rw [cellOf this]; exact hv
  have hSD : (Builtin.unsafeSliceData_ #[86] 118 #[.slice (some ⟨g, 0, none⟩) 0 0]).run Tryd.prog w.drew = .ok (.pointer (some ⟨w.drew.heap.size, 0, none⟩)) (w.drew.alloc (.view ⟨g, 0, none⟩ 5)) :=
    Lib.run_unsafeSliceData_zero w.drew _ _ 5 Tryd.underlying118 ⟨g, 0, none⟩ 0 (5, cur.size) (by have hg' : w.drew.heap[g]? = some (.cells cur 5 (0, 0)) := hg; simp [World.shape?, hg'])
  have c2 : (w.drew.alloc (.view ⟨g, 0, none⟩ 5)).cell? ⟨b, o + 1, none⟩ = some (.slice (some ⟨g, 0, none⟩) 0 0) := by
    have : (w.drew.alloc (.view ⟨g, 0, none⟩ 5)).heap[b]? = _ := (Lib.alloc_old w.drew _ b hlt).trans hbk
    rw [cellOf this]; exact hv
  have c3 : (w.alloc (.view ⟨g, 0, none⟩ 5)).drew.cell? ⟨b, o + 1, none⟩ = some (.slice (some ⟨g, 0, none⟩) 0 0) := c2
  have c0 : w.cell? ⟨b, o + 1, none⟩ = some (.slice (some ⟨g, 0, none⟩) 0 0) := c1
  clear hv hbk hg
  go_enter Tryd.func38, Tryd.ntmps38
  go_wp2
  go_region
  all_goals (go_wp2; go_ret; exact ⟨rfl, (Frm.drew _ _).trans (Frm.alloc _ _ _)⟩)

set_option maxHeartbeats 2000000 in
set_option maxRecDepth 100000 in
theorem String_room (T b o g cap : Nat) (cs : Array Value) (w : World) (hc0 : cap ≠ 0) (hbk : w.heap[b]? = some (.cells cs T (0, 0))) (hv : cs[o + 1]? = some (.slice (some ⟨g, 0, none⟩) 0 cap)) :
    Calls Tryd.prog 38 #[.pointer (some ⟨b, o, none⟩)] w fun e w' => e = .returned (.string ⟨#[]⟩) ∧ Frm (fun _ => False) w w' := by
  have hUS := fun (W : World) (q : Option Addr) => Lib.run_unsafeString_none (P := Tryd.prog) W 118 3 9 q
  have c1 : w.drew.cell? ⟨b, o + 1, none⟩ = some (.slice (some ⟨g, 0, none⟩) 0 cap) := by
    have : w.drew.heap[b]? = some (.cells cs T (0, 0)) := hbk
    rw [cellOf this]; exact hv
  have hSD : (Builtin.unsafeSliceData_ #[86] 118 #[.slice (some ⟨g, 0, none⟩) 0 cap]).run Tryd.prog w.drew = .ok (.pointer (some ⟨g, 0, none⟩)) w.drew :=
    Lib.run_unsafeSliceData_row _ _ _ _ _ _ hc0
  clear hc0 hv hbk
  go_enter Tryd.func38, Tryd.ntmps38
  go_wp2
  go_region
  all_goals (go_wp2; go_ret; exact ⟨rfl, Frm.drew _ _⟩)

set_option maxHeartbeats 2000000 in
set_option maxRecDepth 100000 in
theorem String_some (T B b o : Nat) (cs : Array Value) (l : List UInt8) (w : World) (h : BldAt T B b o cs l w) (h0 : l ≠ []) :
    Calls Tryd.prog 38 #[.pointer (some ⟨b, o, none⟩)] w fun e w' => e = .returned (.string ⟨l.toArray⟩) ∧ ∃ v, cs[o + 1]? = some v ∧ Frm (fun i => some i = v.ownBlock) w w' := by
  obtain ⟨v, hv, hown, hvb⟩ := h.buf
  have hbk := h.block
  have hl0 : l.length ≠ 0 := by simpa using h0
  obtain ⟨g, cap, cur, rfl, hbg, hg, hnc, hcm, hcs, htake⟩ : ∃ g cap cur, v = .slice (some ⟨g, 0, none⟩) l.length cap ∧ B ≤ g ∧ w.heap[g]? = some (.cells cur 5 (0, 0)) ∧ l.length ≤ cap ∧ cap ≤ maxLen ∧ cur.size = cap * 1 ∧ cur.toList.take (l.length * 1) = Lib.byteCells l := by
    rcases hown.2 with ⟨_, hz⟩ | ⟨g, cap, cur, hv, r⟩
    · exact absurd hz hl0
    · exact ⟨g, cap, cur, hv, r⟩
  have c1 : w.drew.cell? ⟨b, o + 1, none⟩ = some (.slice (some ⟨g, 0, none⟩) l.length cap) := by
    have : w.drew.heap[b]? = some (.cells cs T (0, 0)) := hbk
    rw [cellOf this]; exact hv
  have hSD : (Builtin.unsafeSliceData_ #[86] 118 #[.slice (some ⟨g, 0, none⟩) l.length cap]).run Tryd.prog w.drew = .ok (.pointer (some ⟨g, 0, none⟩)) w.drew :=
    Lib.run_unsafeSliceData_row _ _ _ _ _ _ (by omega)
  have hUS : (Builtin.unsafeString_ #[118, 3] 9 #[.pointer (some ⟨g, 0, none⟩), .int .i64 l.length]).run Tryd.prog w.drew = .ok (.string ⟨l.toArray⟩) (w.drew.freeze ⟨g, 0, none⟩ l.length) := by
    refine Lib.run_unsafeString_row w.drew 118 3 9 5 Tryd.underlying118 cellsByte g cur.size (by have hg' : w.drew.heap[g]? = some (.cells cur 5 (0, 0)) := hg; simp [World.shape?, hg']) l h0 (by omega) (by unfold maxLen at hcm; omega) ?_
    intro j x hx
    have := hown.cells (g := g) rfl j (.int .u8 x.toNat) (by simp [Lib.byteCells, hx])
    exact this
  clear hbk hg hcs htake hl0
  have HV := Lib.hid hv; clear hv
  go_enter Tryd.func38, Tryd.ntmps38
  go_wp2
  go_region
  all_goals (go_wp2; go_ret; exact ⟨rfl, _, HV.out, (Frm.drew _ _).trans ((Frm.freeze _ _ _).mono fun i _ e => by rw [e]; rfl)⟩)

/-- String: the bytes; what the builder's own buffer is, is frozen: nothing else turns. -/
theorem String_calls (T B b o : Nat) (cs : Array Value) (l : List UInt8) (w : World) (h : BldAt T B b o cs l w) :
    Calls Tryd.prog 38 #[.pointer (some ⟨b, o, none⟩)] w fun e w' => e = .returned (.string ⟨l.toArray⟩) ∧ ∃ v, cs[o + 1]? = some v ∧ Frm (fun i => some i = v.ownBlock) w w' := by
  cases l with
  | cons x r => exact String_some T B b o cs (x :: r) w h (by simp)
  | nil =>
    obtain ⟨v, hv, hown, hvb⟩ := h.buf
    rcases hown.2 with ⟨rfl, _⟩ | ⟨g, cap, cur, rfl, hbg, hg, _, _, _, _⟩
    · exact (String_nil T b o cs w h.block hv).mono fun e w' ⟨h1, h2⟩ => ⟨h1, _, hv, h2.mono fun _ _ f => f.elim⟩
    · by_cases hc0 : cap = 0
      · subst hc0
        exact (String_noroom T b o g cs cur w h.block hv hg).mono fun e w' ⟨h1, h2⟩ => ⟨h1, _, hv, h2.mono fun _ _ f => f.elim⟩
      · exact (String_room T b o g cap cs w hc0 h.block hv).mono fun e w' ⟨h1, h2⟩ => ⟨h1, _, hv, h2.mono fun _ _ f => f.elim⟩
end Go.Proofs.YtpiclilonkaffaaDoor
