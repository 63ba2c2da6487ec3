/- A region that draws its order: an invariant that each operation keeps, whatever has come up before it. -/
import Derived.Test.YtpiclilonkaffaaDoorReg
namespace Go.Proofs.YtpiclilonkaffaaDoor
open Go
section
variable {P : Program} {ops : Array Oper} {md : Region.Mode}

def allListed (listed : Array Bool) (n : Nat) : Prop := ∀ i, i < n → listed.getD i true = true

theorem wpAny_of_inv {Q : Exit → Act → World → Prop} {I : Array Bool → Act → World → Prop}
    (hstep : ∀ listed a w i, listed.size = ops.size → I listed a w → i ∈ Region.ready md ops listed → wpOp P ops Q i (fun a' w' => I (listed.setIfInBounds i true) a' w') a w)
    (hend : ∀ listed a w, listed.size = ops.size → I listed a w → Region.ready md ops listed = [] → Q .normal a w) :
    ∀ (f : Nat) (listed : Array Bool) (a : Act) (w : World), listed.size = ops.size → listed.toList.countP (fun b => !b) ≤ f → I listed a w → wpAny P md ops Q f listed a w
  | 0, listed, a, w, hs, hf, hI => by
    have hr : Region.ready md ops listed = [] := by
      cases hr : Region.ready md ops listed with
      | nil => rfl
      | cons i r =>
        have hi : i ∈ Region.ready md ops listed := by rw [hr]; exact List.mem_cons_self ..
        have h1 := (mem_ready.1 hi).1
        have h0 : listed.toList.countP (fun b => !b) = 0 := by omega
        rcases Nat.lt_or_ge i listed.size with h | h
        · have hm : listed[i] ∈ listed.toList := by simp
          have := List.countP_eq_zero.1 h0 _ hm
          simp [h] at h1
          simp [h1] at this
        · simp [Array.getElem?_eq_none h] at h1
    exact ⟨hr, hend listed a w hs hI hr⟩
  | f + 1, listed, a, w, hs, hf, hI => by
    refine ⟨hend listed a w hs hI, fun i hi => ?_⟩
    refine wpOp_mono (fun a' w' h => wpAny_of_inv hstep hend f _ a' w' (by simpa using hs) ?_ h) (hstep listed a w i hs hI hi)
    have h1 := (mem_ready.1 hi).1
    rcases Nat.lt_or_ge i listed.size with h | h
    · have h1' : listed[i] = false := by simpa [h] using h1
      have hc := List.countP_set (p := fun b : Bool => !b) (l := listed.toList) (i := i) (a := true) (by simpa using h)
      have hp : 0 < listed.toList.countP (fun b => !b) := List.countP_pos_iff.2 ⟨listed[i], by simp, by simp [h1']⟩
      have hg : listed.toList[i]'(by simpa using h) = false := by simpa using h1'
      rw [hg] at hc
      rw [Array.toList_setIfInBounds, hc]
      simp only [Bool.not_false, Bool.not_true, if_true, Bool.false_eq_true, if_false]
      omega
    · simp [Array.getElem?_eq_none h] at h1
/-- Whatever order is drawn. -/
theorem wp_region_inv {id : Nat} {Q : Exit → Act → World → Prop} {a : Act} {w : World} (I : Array Bool → Act → World → Prop) (hm : P.follows .mixedOrders = true)
    (h0 : I (Array.replicate ops.size false) a w.drew)
    (hstep : ∀ listed a w i, listed.size = ops.size → I listed a w → i ∈ Region.ready .any ops listed → wpOp P ops Q i (fun a' w' => I (listed.setIfInBounds i true) a' w') a w)
    (hend : ∀ listed a w, listed.size = ops.size → I listed a w → Region.ready .any ops listed = [] → Q .normal a w) : (Code.region id ops true).wp P Q a w := by
  refine wp_region_any hm (wpAny_of_inv (I := I) hstep hend _ _ _ _ (by simp) ?_ h0)
  have := List.countP_le_length (p := fun b : Bool => !b) (l := (Array.replicate ops.size false).toList)
  simpa using this
/-- The same, the invariant told of the act at the start; what follows an operation stands behind a variable. -/
theorem wp_region_invA {id : Nat} {Q : Exit → Act → World → Prop} {a : Act} {w : World} (I : Act → Array Bool → Act → World → Prop) (hm : P.follows .mixedOrders = true)
    (h0 : I a (Array.replicate ops.size false) a w.drew)
    (hstep : ∀ listed a' w' i (K : Act → World → Prop), (∀ a'' w'', I a (listed.setIfInBounds i true) a'' w'' → K a'' w'') → listed.size = ops.size → I a listed a' w' → i ∈ Region.ready .any ops listed → wpOp P ops Q i K a' w')
    (hend : ∀ listed a' w', listed.size = ops.size → I a listed a' w' → Region.ready .any ops listed = [] → Q .normal a' w') : (Code.region id ops true).wp P Q a w :=
  wp_region_inv (I a) hm h0 (fun listed a' w' i hs hI hi => hstep listed a' w' i _ (fun _ _ h => h) hs hI hi) hend
/-- Whoever is told behind those it waits for: at the end all have come up. -/
theorem all_listed (hord : (List.range ops.size).all (fun i => (ops[i]?).elim true fun o => o.after.all fun e => decide (e.on < i)) = true) {listed : Array Bool} (hr : Region.ready md ops listed = []) :
    ∀ i, i < ops.size → listed.getD i true = true := by
  intro i
  induction i using Nat.strongRecOn with
  | _ i ih =>
    intro hi
    cases h : listed.getD i true with
    | true => rfl
    | false =>
      exfalso
      have ho : ops[i]? = some ops[i] := Array.getElem?_eq_getElem hi
      have hall := List.all_eq_true.1 hord i (List.mem_range.2 hi)
      rw [ho] at hall
      have hm : i ∈ Region.ready md ops listed := mem_ready.2 ⟨h, ops[i], ho, fun e he _ => by
        have h1 := Array.all_eq_true'.1 (show ops[i].after.all (fun e => decide (e.on < i)) = true from hall) e he
        have h2 : e.on < i := by simpa using h1
        have h3 := ih e.on h2 (by omega)
        rcases Nat.lt_or_ge e.on listed.size with h4 | h4
        · simp [h4] at h3 ⊢; exact h3
        · exfalso
          have h5 : listed.size ≤ i := by omega
          simp [Array.getElem?_eq_none h5] at h⟩
      rw [hr] at hm
      cases hm
theorem keepL {listed : Array Bool} {k j : Nat} {R : Prop} (h : k ≠ j) (hr : listed.getD j true = true → R) : (listed.setIfInBounds k true).getD j true = true → R := by
  rw [getD_set_ne true h]; exact hr
theorem getD_tt {listed : Array Bool} {j : Nat} (h : listed.getD j false = true) : listed.getD j true = true := by
  rcases Nat.lt_or_ge j listed.size with h' | h'
  · simp [h'] at h ⊢; exact h
  · simp [Array.getElem?_eq_none h'] at h
end
end Go.Proofs.YtpiclilonkaffaaDoor
