/- The reference's directive of the zone: its calls. -/
import Derived.Test.YtpiclilonkaffaaDoorStampQ
namespace Go.Proofs.YtpiclilonkaffaaDoor
open Go.RowKit

set_option maxRecDepth 200000 in
set_option maxHeartbeats 1000000 in
theorem ROne_122 (t o : Int) (w : World) (h1 : -9223372036854775808 ≤ t) (h2 : t ≤ 9223372036854775807) (ho1 : -9223372036854775808 ≤ o) (ho2 : o ≤ 9223372036854775807) :
    Calls Tryd.prog 39 #[.int .u8 122, .int .i64 t, .int .i64 o] w fun e w' => e = .returned (resD (dirL t o 122)) ∧ Below w.heap.size w w' := by
  have HO := ROf_calls t o w h1 h2
  rw [show dirL t o 122 = some (zoneL o) from rfl]
  generalize dOf t o = d at *
  obtain ⟨y, mo, da, ho, mi, se, wd, yd⟩ := d
  simp only [Dt.val] at *
  obtain ⟨hA, hz⟩ | ⟨hA, hz⟩ | ⟨m, hm0, hm1, rfl, hz⟩ | ⟨m, hm1, rfl, hz⟩ : (o < -86400 ∧ zoneL o = 45 :: (twoL 24 ++ twoL 0)) ∨ (86400 < o ∧ zoneL o = 43 :: (twoL 24 ++ twoL 0)) ∨
      (∃ m : Nat, 0 < m ∧ m ≤ 86400 ∧ o = -(m : Int) ∧ zoneL o = 45 :: (twoL (m / 3600) ++ twoL (m / 60 % 60))) ∨ (∃ m : Nat, m ≤ 86400 ∧ o = (m : Int) ∧ zoneL o = 43 :: (twoL (m / 3600) ++ twoL (m / 60 % 60))) := by
    rcases Int.lt_or_le o (-86400) with h | h
    · exact .inl ⟨h, zone_neg 86400 (by omega) (by omega) o (by unfold clampOff; omega)⟩
    · rcases Int.lt_or_le 86400 o with h' | h'
      · exact .inr (.inl ⟨h', zone_pos 86400 (by omega) o (by unfold clampOff; omega)⟩)
      · rcases Int.lt_or_le o 0 with h0 | h0
        · exact .inr (.inr (.inl ⟨o.natAbs, by omega, by omega, by omega, zone_neg _ (by omega) (by omega) o (by unfold clampOff; omega)⟩))
        · exact .inr (.inr (.inr ⟨o.toNat, by omega, by omega, zone_pos _ (by omega) o (by unfold clampOff; omega)⟩))
  · rw [hz]
    clear hz
    have hmx : max (min o 86400) (-86400) = -86400 := by omega
    have H1 := fun w => two_calls 24 (by omega) w
    have H2 := fun w => two_calls 0 (by omega) w
    obtain ⟨p, hp⟩ : ∃ l, l = twoL 24 := ⟨_, rfl⟩
    obtain ⟨q, hq⟩ : ∃ l, l = twoL 0 := ⟨_, rfl⟩
    have lp : p.length = 2 := by rw [hp]; rfl
    have lq : q.length = 2 := by rw [hq]; rfl
    rw [← hp] at H1 ⊢
    rw [← hq] at H2 ⊢
    clear hp hq
    push_cast at H1 H2
    go_enter Tryd.func39, Tryd.ntmps39
    go_wp2_with fail
    refine HO.mono ?_
    rintro e w1 ⟨rfl, hb⟩
    have hbA : ∀ ob, Below w.heap.size w (w1.alloc ob) := fun ob => hb.alloc hb.size _
    go_wp2_with fail
    refine (H1 _).mono ?_
    rintro e w2 ⟨rfl, hb2⟩
    go_wp2_with fail
    refine (H2 _).mono ?_
    rintro e w3 ⟨rfl, hb3⟩
    go_wp2
    go_ret2
    refine ⟨congrArg (fun b => Ending.returned (.tuple #[.string b, .bool true])) (?_ : (⟨[45].toArray⟩ : ByteArray) ++ (⟨p.toArray⟩ : ByteArray) ++ (⟨q.toArray⟩ : ByteArray) = ⟨(45 :: (p ++ q)).toArray⟩), below_seq (below_seq (hbA _) hb2 (Nat.le_refl _)) hb3 (Nat.le_refl _)⟩
    rw [bcat, bcat]; rfl
  · rw [hz]
    clear hz
    have hmx : max (min o 86400) (-86400) = 86400 := by omega
    have H1 := fun w => two_calls 24 (by omega) w
    have H2 := fun w => two_calls 0 (by omega) w
    obtain ⟨p, hp⟩ : ∃ l, l = twoL 24 := ⟨_, rfl⟩
    obtain ⟨q, hq⟩ : ∃ l, l = twoL 0 := ⟨_, rfl⟩
    have lp : p.length = 2 := by rw [hp]; rfl
    have lq : q.length = 2 := by rw [hq]; rfl
    rw [← hp] at H1 ⊢
    rw [← hq] at H2 ⊢
    clear hp hq
    push_cast at H1 H2
    go_enter Tryd.func39, Tryd.ntmps39
    go_wp2_with fail
    refine HO.mono ?_
    rintro e w1 ⟨rfl, hb⟩
    have hbA : ∀ ob, Below w.heap.size w (w1.alloc ob) := fun ob => hb.alloc hb.size _
    go_wp2_with fail
    refine (H1 _).mono ?_
    rintro e w2 ⟨rfl, hb2⟩
    go_wp2_with fail
    refine (H2 _).mono ?_
    rintro e w3 ⟨rfl, hb3⟩
    go_wp2
    go_ret2
    refine ⟨congrArg (fun b => Ending.returned (.tuple #[.string b, .bool true])) (?_ : (⟨[43].toArray⟩ : ByteArray) ++ (⟨p.toArray⟩ : ByteArray) ++ (⟨q.toArray⟩ : ByteArray) = ⟨(43 :: (p ++ q)).toArray⟩), below_seq (below_seq (hbA _) hb2 (Nat.le_refl _)) hb3 (Nat.le_refl _)⟩
    rw [bcat, bcat]; rfl
  · rw [hz]
    clear hz
    have hmx : max (min (-(m : Int)) 86400) (-86400) = -(m : Int) := by omega
    have H1 := fun w => two_calls (m / 3600) (by omega) w
    have H2 := fun w => two_calls (m / 60 % 60) (by omega) w
    obtain ⟨p, hp⟩ : ∃ l, l = twoL (m / 3600) := ⟨_, rfl⟩
    obtain ⟨q, hq⟩ : ∃ l, l = twoL (m / 60 % 60) := ⟨_, rfl⟩
    have lp : p.length = 2 := by rw [hp]; rfl
    have lq : q.length = 2 := by rw [hq]; rfl
    rw [← hp] at H1 ⊢
    rw [← hq] at H2 ⊢
    clear hp hq
    push_cast at H1 H2
    go_enter Tryd.func39, Tryd.ntmps39
    go_wp2_with fail
    refine HO.mono ?_
    rintro e w1 ⟨rfl, hb⟩
    have hbA : ∀ ob, Below w.heap.size w (w1.alloc ob) := fun ob => hb.alloc hb.size _
    go_wp2_with fail
    refine (H1 _).mono ?_
    rintro e w2 ⟨rfl, hb2⟩
    go_wp2_with fail
    refine (H2 _).mono ?_
    rintro e w3 ⟨rfl, hb3⟩
    go_wp2
    go_ret2
    refine ⟨congrArg (fun b => Ending.returned (.tuple #[.string b, .bool true])) (?_ : (⟨[45].toArray⟩ : ByteArray) ++ (⟨p.toArray⟩ : ByteArray) ++ (⟨q.toArray⟩ : ByteArray) = ⟨(45 :: (p ++ q)).toArray⟩), below_seq (below_seq (hbA _) hb2 (Nat.le_refl _)) hb3 (Nat.le_refl _)⟩
    rw [bcat, bcat]; rfl
  · rw [hz]
    clear hz
    have hmx : max (min (m : Int) 86400) (-86400) = (m : Int) := by omega
    have H1 := fun w => two_calls (m / 3600) (by omega) w
    have H2 := fun w => two_calls (m / 60 % 60) (by omega) w
    obtain ⟨p, hp⟩ : ∃ l, l = twoL (m / 3600) := ⟨_, rfl⟩
    obtain ⟨q, hq⟩ : ∃ l, l = twoL (m / 60 % 60) := ⟨_, rfl⟩
    have lp : p.length = 2 := by rw [hp]; rfl
    have lq : q.length = 2 := by rw [hq]; rfl
    rw [← hp] at H1 ⊢
    rw [← hq] at H2 ⊢
    clear hp hq
    push_cast at H1 H2
    go_enter Tryd.func39, Tryd.ntmps39
    go_wp2_with fail
    refine HO.mono ?_
    rintro e w1 ⟨rfl, hb⟩
    have hbA : ∀ ob, Below w.heap.size w (w1.alloc ob) := fun ob => hb.alloc hb.size _
    go_wp2_with fail
    refine (H1 _).mono ?_
    rintro e w2 ⟨rfl, hb2⟩
    go_wp2_with fail
    refine (H2 _).mono ?_
    rintro e w3 ⟨rfl, hb3⟩
    go_wp2
    go_ret2
    refine ⟨congrArg (fun b => Ending.returned (.tuple #[.string b, .bool true])) (?_ : (⟨[43].toArray⟩ : ByteArray) ++ (⟨p.toArray⟩ : ByteArray) ++ (⟨q.toArray⟩ : ByteArray) = ⟨(43 :: (p ++ q)).toArray⟩), below_seq (below_seq (hbA _) hb2 (Nat.le_refl _)) hb3 (Nat.le_refl _)⟩
    rw [bcat, bcat]; rfl
end Go.Proofs.YtpiclilonkaffaaDoor
