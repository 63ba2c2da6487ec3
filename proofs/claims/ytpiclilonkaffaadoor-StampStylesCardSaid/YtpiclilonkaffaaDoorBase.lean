/- Words of my own: data of the file system and how it lies in memory. -/
import Derived.Test.YtpiclilonkaffaaDoorProg
import Derived.WalkKit
import Derived.WalkSpells
import Derived.StillTactics
import Derived.StillTailTactics
import Derived.Deep.LoopGhost
import Derived.Deep.RegionHeld3
import Derived.Deep.QuietTactic
import Derived.BigQuiet
import Derived.Lib.Hide
import Derived.Test.YtpiclilonkaffaaDoorReg
namespace Go.Proofs.YtpiclilonkaffaaDoor
open Go.RowKit

/-! ### Blocks -/
theorem cellOf {w : World} {b : Nat} {cs : Array Value} {T : TypeId} {fr : Nat × Nat} (h : w.heap[b]? = some (.cells cs T fr)) (j : Nat) : w.cell? ⟨b, j, none⟩ = cs[j]? := by
  simp [World.cell?, h]
theorem frozenOf {w : World} {b : Nat} {cs : Array Value} {T : TypeId} (h : w.heap[b]? = some (.cells cs T (0, 0))) (j : Nat) : w.frozen? ⟨b, j, none⟩ = false := by
  simp [World.frozen?, h]
theorem ltOf {w : World} {b : Nat} {o : Obj} (h : w.heap[b]? = some o) : b < w.heap.size := by
  rcases Nat.lt_or_ge b w.heap.size with h' | h'
  · exact h'
  · rw [Array.getElem?_eq_none h'] at h; cases h
theorem heap_setCell {w : World} {b : Nat} {cs : Array Value} {T : TypeId} {fr : Nat × Nat} (h : w.heap[b]? = some (.cells cs T fr)) (j : Nat) (v : Value) :
    (w.setCell ⟨b, j, none⟩ v).heap[b]? = some (.cells (cs.setIfInBounds j v) T fr) := by
  simp [World.setCell, Array.getElem?_modify, h]
theorem heap_setCell_ne {w : World} {b c j : Nat} {v : Value} (h : b ≠ c) : (w.setCell ⟨b, j, none⟩ v).heap[c]? = w.heap[c]? := by
  simp only [World.setCell, Array.getElem?_modify]
  rw [if_neg h]
theorem size_setCell (w : World) (a : Addr) (v : Value) : (w.setCell a v).heap.size = w.heap.size := by simp [World.setCell]
theorem heap_alloc_lt {w : World} {b : Nat} {o o' : Obj} (h : w.heap[b]? = some o) : (w.alloc o').heap[b]? = some o := by
  rw [heap_alloc_old w o' (ltOf h)]; exact h
theorem heap_drewN (w : World) (n : Nat) : (w.drewN n).heap = w.heap := rfl
theorem heap_drew (w : World) : w.drew.heap = w.heap := rfl
theorem below_setCell {B : Nat} {w w' : World} (h : Below B w w') {b j : Nat} (hb : B ≤ b) (v : Value) : Below B w (w'.setCell ⟨b, j, none⟩ v) := h.setCell hb v

theorem below_dn {B : Nat} {w w' : World} (h : Below B w w') (n : Nat) : Below B w (w'.drewN n) := ⟨h.os, h.tape, h.output, h.size, h.block⟩
theorem heap_new_at {w : World} {o : Obj} {n : Nat} (h : w.heap.size = n) : (w.alloc o).heap[n]? = some o := h ▸ heap_alloc_new w o
/-- The world is w, but for blocks of S, and new ones. -/
structure Frm (S : Nat → Prop) (w w' : World) : Prop where
  os : w'.os = w.os
  tape : w'.tape = w.tape
  output : w'.output = w.output
  size : w.heap.size ≤ w'.heap.size
  block : ∀ k, k < w.heap.size → ¬ S k → w'.heap[k]? = w.heap[k]?
theorem Frm.refl (S : Nat → Prop) (w : World) : Frm S w w := ⟨rfl, rfl, rfl, Nat.le_refl _, fun _ _ _ => rfl⟩
theorem Frm.trans {S : Nat → Prop} {w w1 w2 : World} (h : Frm S w w1) (k : Frm S w1 w2) : Frm S w w2 :=
  ⟨k.os.trans h.os, k.tape.trans h.tape, k.output.trans h.output, Nat.le_trans h.size k.size, fun i hi hs => (k.block i (Nat.lt_of_lt_of_le hi h.size) hs).trans (h.block i hi hs)⟩
theorem Frm.mono {S S' : Nat → Prop} {w w1 : World} (h : Frm S w w1) (k : ∀ i, i < w.heap.size → S i → S' i) : Frm S' w w1 :=
  ⟨h.os, h.tape, h.output, h.size, fun i hi hs => h.block i hi fun s => hs (k i hi s)⟩
theorem Frm.below {B : Nat} {w w1 : World} (h : Frm (fun i => B ≤ i) w w1) (hB : B ≤ w.heap.size) : Below B w w1 :=
  ⟨h.os, h.tape, h.output, h.size, fun i hi => h.block i (Nat.lt_of_lt_of_le hi hB) (by omega)⟩
theorem Frm.of_below {B : Nat} {w w1 : World} (h : Below B w w1) : Frm (fun i => B ≤ i) w w1 :=
  ⟨h.os, h.tape, h.output, h.size, fun i _ hs => h.block i (by omega)⟩
theorem Frm.of_grown {r : Option Nat} {w w1 : World} (h : w.grownBy w1 r) : Frm (fun i => some i = r) w w1 :=
  ⟨h.os, h.tape, h.output, h.size, fun i hi hs => h.block i hi hs⟩
theorem Frm.setCell (w : World) (b j : Nat) (v : Value) : Frm (fun i => i = b) w (w.setCell ⟨b, j, none⟩ v) :=
  ⟨rfl, rfl, rfl, by rw [size_setCell]; exact Nat.le_refl _, fun i _ hs => heap_setCell_ne (fun e => hs e.symm)⟩
theorem Frm.drewN (S : Nat → Prop) (w : World) (n : Nat) : Frm S w (w.drewN n) := ⟨rfl, rfl, rfl, Nat.le_refl _, fun _ _ _ => rfl⟩
theorem Frm.drew (S : Nat → Prop) (w : World) : Frm S w w.drew := ⟨rfl, rfl, rfl, Nat.le_refl _, fun _ _ _ => rfl⟩
theorem Frm.alloc (S : Nat → Prop) (w : World) (o : Obj) : Frm S w (w.alloc o) := ⟨rfl, rfl, rfl, by simp, fun k hk _ => heap_alloc_old w o hk⟩

/-- One call behind another: what was there stays. -/
theorem below_seq {B : Nat} {w w1 w2 : World} (h : Below B w w1) (k : Below w1.heap.size w1 w2) (hB : B ≤ w.heap.size) : Below B w w2 :=
  h.trans ⟨k.os, k.tape, k.output, k.size, fun i hi => k.block i (Nat.lt_of_lt_of_le hi (Nat.le_trans hB h.size))⟩

/-- A callee that leaves the world alone. -/
theorem quiet_eq {P : Program} {f : FuncId} {args : Array Value} {w : World} {n : Nat} {v : Value}
    (h : Calls P f args (w.drewN n) fun e w' => e = .returned v ∧ w.drewN n = w') : Calls P f args (w.drewN n) fun e w'' => e = .returned v ∧ ∃ m, w'' = w.drewN m :=
  h.mono fun _ _ ⟨he, hm⟩ => ⟨he, n, hm.symm⟩
theorem still_eq {P : Program} {f : FuncId} {args : Array Value} {w : World} {v : Value}
    (h : Calls P f args w fun e w' => e = .returned v ∧ w = w') : Calls P f args w fun e w'' => e = .returned v ∧ w'' = w :=
  h.mono fun _ _ ⟨he, hm⟩ => ⟨he, hm.symm⟩

end Go.Proofs.YtpiclilonkaffaaDoor
