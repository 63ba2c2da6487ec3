/- The reference's directive of the year's day: its calls. -/
import Derived.IntWalk
import Derived.Test.YtpiclilonkaffaaDoorRegT
import Derived.Test.YtpiclilonkaffaaDoorStampY
namespace Go.Proofs.YtpiclilonkaffaaDoor
open Go.RowKit Go.Sort

set_option maxRecDepth 200000 in
set_option maxHeartbeats 2000000 in
theorem ROne_106 (t o : Int) (w : World) (h1 : -9223372036854775808 ≤ t) (h2 : t ≤ 9223372036854775807) :
    Calls Tryd.prog 39 #[.int .u8 106, .int .i64 t, .int .i64 o] w fun e w' => e = .returned (resD (dirL t o 106)) ∧ Below w.heap.size w w' := by
  obtain ⟨a1, a2, a3, a4, a5, a6, a7, a8, a9, a10, a11, a12, a13, a14, a15, a16⟩ := dOf_bounds t o h1 h2
  have HO := ROf_calls t o w h1 h2
  rw [show dirL t o 106 = some (padL (dOf t o).yearday 3 48) from rfl]
  generalize dOf t o = d at *
  obtain ⟨y, mo, da, ho, mi, se, wd, yd⟩ := d
  simp only [Dt.val] at *
  obtain ⟨m, rfl⟩ := Int.eq_ofNat_of_zero_le (show (0 : Int) ≤ yd by omega)
  rw [pad_three m (by omega)]
  have H2 := fun w => two_calls (m % 100) (by omega) w
  have lp : (twoL (m % 100)).length = 2 := rfl
  generalize twoL (m % 100) = p at *
  push_cast at H2
  clear a1 a2 a3 a4 a5 a6 a7 a8 a9 a10 a11 a12 a13 a14
  have hcv : ∀ (W : World) (b : Nat), W.heap[b]? = some (Obj.cells #[Value.int .u8 (48 + (m : Int) / 100)] 5) → (convert 86 9 (.slice (some ⟨b, 0, none⟩) 1 1)).run Tryd.prog W = .ok (.string ⟨[UInt8.ofNat (48 + m / 100)].toArray⟩) W := fun W b hW => by
    refine run_convert_bytes_back (P := Tryd.prog) _ 86 9 5 ⟨b, 0, none⟩ 1 [UInt8.ofNat (48 + m / 100)] Tryd.underlying86 Tryd.underlying5 Tryd.underlying9 (fun j hj => ?_)
    have hj2 : j < 1 := hj
    obtain rfl : j = 0 := by omega
    rw [Lib.add_plain, cellOf hW]
    have e : (UInt8.ofNat (48 + m / 100)).toNat = 48 + m / 100 := by rw [UInt8.toNat_ofNat']; omega
    show some (Value.int .u8 (48 + (m : Int) / 100)) = some (Value.int .u8 ((UInt8.ofNat (48 + m / 100)).toNat : Int))
    rw [e]; exact congrArg (fun z => some (Value.int .u8 z)) (by omega)
  generalize UInt8.ofNat (48 + m / 100) = c at *
  have W1 : Hid (IntKind.i64.wrap ((m : Int) / 100) = (m : Int) / 100) := Lib.hid (IntWalk.i64_in _ (by omega))
  have W2 : Hid (IntKind.i64.wrap (48 + (m : Int) / 100) = 48 + (m : Int) / 100) := Lib.hid (IntWalk.i64_in _ (by omega))
  have W3 : Hid (IntKind.u8.wrap (48 + (m : Int) / 100) = 48 + (m : Int) / 100) := Lib.hid (by simp [IntKind.wrap, IntKind.bits, IntKind.signed]; omega)
  have W4 : Hid (IntKind.i64.wrap ((m : Int) % 100) = (m : Int) % 100) := Lib.hid (IntWalk.i64_in _ (by omega))
  go_enter Tryd.func39, Tryd.ntmps39
  go_wp2_with fail
  refine HO.mono ?_
  rintro e w1 ⟨rfl, hb⟩
  have hbA : ∀ ob, Below w.heap.size w (w1.alloc ob) := fun ob => hb.alloc hb.size _
  go_wp2_with fail
  have m2 := heap_alloc_new w1 (Obj.cells #[Value.int .i64 y, Value.int .i64 mo, Value.int .i64 da, Value.int .i64 ho, Value.int .i64 mi, Value.int .i64 se, Value.int .i64 wd, Value.int .i64 m] 114)
  have hbB := hbA (Obj.cells #[Value.int .i64 y, Value.int .i64 mo, Value.int .i64 da, Value.int .i64 ho, Value.int .i64 mi, Value.int .i64 se, Value.int .i64 wd, Value.int .i64 m] 114)
  generalize (w1.alloc (Obj.cells #[Value.int .i64 y, Value.int .i64 mo, Value.int .i64 da, Value.int .i64 ho, Value.int .i64 mi, Value.int .i64 se, Value.int .i64 wd, Value.int .i64 m] 114)) = w2 at *
  have cG := fun (w3 : World) (h : Below w2.heap.size w2 w3) => cellOf ((h.block _ (ltOf m2)).trans m2)
  have fG := fun (w3 : World) (h : Below w2.heap.size w2 w3) => frozenOf ((h.block _ (ltOf m2)).trans m2)
  refine wp_region_invA (I := fun a0 listed a w3 => Below w2.heap.size w2 w3 ∧ ∃ x48 x49 x50 x51 x52 x53 x54 x55 x56 x57 x58 x59 x6 x7, a = (((((((((((((a0.put (some 48) x48).put (some 49) x49).put (some 50) x50).put (some 51) x51).put (some 52) x52).put (some 53) x53).put (some 54) x54).put (some 55) x55).put (some 56) x56).put (some 57) x57).put (some 58) x58).put (some 59) x59).put (some 6) x6).put (some 7) x7 ∧
    (listed.getD 0 true = true → x48 = .pointer (some ⟨w1.heap.size, 7, none⟩)) ∧ (listed.getD 1 true = true → x49 = .int .i64 m) ∧ (listed.getD 2 true = true → x50 = .int .i64 ((m : Int) / 100)) ∧ (listed.getD 3 true = true → x51 = .int .i64 (48 + (m : Int) / 100)) ∧
    (listed.getD 4 true = true → x52 = .int .u8 (48 + (m : Int) / 100)) ∧ (listed.getD 5 true = true → ∃ b, x53 = .slice (some ⟨b, 0, none⟩) 1 1 ∧ w2.heap.size ≤ b ∧ w3.heap[b]? = some (Obj.cells #[Value.int .u8 (48 + (m : Int) / 100)] 5)) ∧
    (listed.getD 6 true = true → x54 = .string ⟨[c].toArray⟩) ∧ (listed.getD 7 true = true → x55 = .pointer (some ⟨w1.heap.size, 7, none⟩)) ∧ (listed.getD 8 true = true → x56 = .int .i64 m) ∧ (listed.getD 9 true = true → x57 = .int .i64 ((m : Int) % 100)) ∧
    (listed.getD 10 true = true → x58 = .string ⟨p.toArray⟩) ∧ (listed.getD 11 true = true → x59 = .string ⟨(c :: p).toArray⟩) ∧ (listed.getD 12 true = true → x6 = .string ⟨(c :: p).toArray⟩) ∧ (listed.getD 13 true = true → x7 = .bool true)) (by kernel_rfl) ?_ ?_ ?_
  · exact ⟨below_dn (Below.refl _ _) 1, undef, undef, undef, undef, undef, undef, undef, undef, undef, undef, undef, undef, .string ⟨#[]⟩, .bool false, by kernel_rfl, by simp, by simp, by simp, by simp, by simp, by simp, by simp, by simp, by simp, by simp, by simp, by simp, by simp, by simp⟩
  · rintro listed a' w3 i K hK hs ⟨hb3, x48, x49, x50, x51, x52, x53, x54, x55, x56, x57, x58, x59, x6, x7, rfl, r0, r1, r2, r3, r4, r5, r6, r7, r8, r9, r10, r11, r12, r13⟩ hi
    obtain ⟨hu, o, ho, hall⟩ := mem_ready.1 hi
    have hi14 : i < 14 := (Array.getElem?_eq_some_iff.1 ho).1
    obtain rfl | rfl | rfl | rfl | rfl | rfl | rfl | rfl | rfl | rfl | rfl | rfl | rfl | rfl : i = 0 ∨ i = 1 ∨ i = 2 ∨ i = 3 ∨ i = 4 ∨ i = 5 ∨ i = 6 ∨ i = 7 ∨ i = 8 ∨ i = 9 ∨ i = 10 ∨ i = 11 ∨ i = 12 ∨ i = 13 := by omega
    · obtain rfl := Option.some.inj ho
      clear hall ho hi
      unfold wpOp
      go_simp
      first | refine .inl (hK _ _ ⟨hb3, _, _, _, _, _, _, _, _, _, _, _, _, _, _, by kernel_rfl, fun _ => rfl, keepL (by decide) r1, keepL (by decide) r2, keepL (by decide) r3, keepL (by decide) r4, keepL (by decide) (r5), keepL (by decide) r6, keepL (by decide) r7, keepL (by decide) r8, keepL (by decide) r9, keepL (by decide) r10, keepL (by decide) r11, keepL (by decide) r12, keepL (by decide) r13⟩) | refine hK _ _ ⟨hb3, _, _, _, _, _, _, _, _, _, _, _, _, _, _, by kernel_rfl, fun _ => rfl, keepL (by decide) r1, keepL (by decide) r2, keepL (by decide) r3, keepL (by decide) r4, keepL (by decide) (r5), keepL (by decide) r6, keepL (by decide) r7, keepL (by decide) r8, keepL (by decide) r9, keepL (by decide) r10, keepL (by decide) r11, keepL (by decide) r12, keepL (by decide) r13⟩
    · obtain rfl := Option.some.inj ho
      obtain rfl := r0 (getD_tt (hall ⟨0, .data⟩ (by simp) rfl))
      clear hall ho hi
      have c3 := cG w3 hb3
      have f3 := fG w3 hb3
      unfold wpOp
      go_simp
      first | refine .inl (hK _ _ ⟨hb3, _, _, _, _, _, _, _, _, _, _, _, _, _, _, by kernel_rfl, keepL (by decide) r0, fun _ => rfl, keepL (by decide) r2, keepL (by decide) r3, keepL (by decide) r4, keepL (by decide) (r5), keepL (by decide) r6, keepL (by decide) r7, keepL (by decide) r8, keepL (by decide) r9, keepL (by decide) r10, keepL (by decide) r11, keepL (by decide) r12, keepL (by decide) r13⟩) | refine hK _ _ ⟨hb3, _, _, _, _, _, _, _, _, _, _, _, _, _, _, by kernel_rfl, keepL (by decide) r0, fun _ => rfl, keepL (by decide) r2, keepL (by decide) r3, keepL (by decide) r4, keepL (by decide) (r5), keepL (by decide) r6, keepL (by decide) r7, keepL (by decide) r8, keepL (by decide) r9, keepL (by decide) r10, keepL (by decide) r11, keepL (by decide) r12, keepL (by decide) r13⟩
    · obtain rfl := Option.some.inj ho
      obtain rfl := r1 (getD_tt (hall ⟨1, .data⟩ (by simp) rfl))
      clear hall ho hi
      have hw := W1.out
      unfold wpOp
      go_simp
      first | refine .inl (hK _ _ ⟨hb3, _, _, _, _, _, _, _, _, _, _, _, _, _, _, by kernel_rfl, keepL (by decide) r0, keepL (by decide) r1, fun _ => rfl, keepL (by decide) r3, keepL (by decide) r4, keepL (by decide) (r5), keepL (by decide) r6, keepL (by decide) r7, keepL (by decide) r8, keepL (by decide) r9, keepL (by decide) r10, keepL (by decide) r11, keepL (by decide) r12, keepL (by decide) r13⟩) | refine hK _ _ ⟨hb3, _, _, _, _, _, _, _, _, _, _, _, _, _, _, by kernel_rfl, keepL (by decide) r0, keepL (by decide) r1, fun _ => rfl, keepL (by decide) r3, keepL (by decide) r4, keepL (by decide) (r5), keepL (by decide) r6, keepL (by decide) r7, keepL (by decide) r8, keepL (by decide) r9, keepL (by decide) r10, keepL (by decide) r11, keepL (by decide) r12, keepL (by decide) r13⟩
    · obtain rfl := Option.some.inj ho
      obtain rfl := r2 (getD_tt (hall ⟨2, .data⟩ (by simp) rfl))
      clear hall ho hi
      have hw := W2.out
      unfold wpOp
      go_simp
      first | refine .inl (hK _ _ ⟨hb3, _, _, _, _, _, _, _, _, _, _, _, _, _, _, by kernel_rfl, keepL (by decide) r0, keepL (by decide) r1, keepL (by decide) r2, fun _ => rfl, keepL (by decide) r4, keepL (by decide) (r5), keepL (by decide) r6, keepL (by decide) r7, keepL (by decide) r8, keepL (by decide) r9, keepL (by decide) r10, keepL (by decide) r11, keepL (by decide) r12, keepL (by decide) r13⟩) | refine hK _ _ ⟨hb3, _, _, _, _, _, _, _, _, _, _, _, _, _, _, by kernel_rfl, keepL (by decide) r0, keepL (by decide) r1, keepL (by decide) r2, fun _ => rfl, keepL (by decide) r4, keepL (by decide) (r5), keepL (by decide) r6, keepL (by decide) r7, keepL (by decide) r8, keepL (by decide) r9, keepL (by decide) r10, keepL (by decide) r11, keepL (by decide) r12, keepL (by decide) r13⟩
    · obtain rfl := Option.some.inj ho
      obtain rfl := r3 (getD_tt (hall ⟨3, .data⟩ (by simp) rfl))
      clear hall ho hi
      have hw := W3.out
      unfold wpOp
      go_simp
      first | refine .inl (hK _ _ ⟨hb3, _, _, _, _, _, _, _, _, _, _, _, _, _, _, by kernel_rfl, keepL (by decide) r0, keepL (by decide) r1, keepL (by decide) r2, keepL (by decide) r3, fun _ => rfl, keepL (by decide) (r5), keepL (by decide) r6, keepL (by decide) r7, keepL (by decide) r8, keepL (by decide) r9, keepL (by decide) r10, keepL (by decide) r11, keepL (by decide) r12, keepL (by decide) r13⟩) | refine hK _ _ ⟨hb3, _, _, _, _, _, _, _, _, _, _, _, _, _, _, by kernel_rfl, keepL (by decide) r0, keepL (by decide) r1, keepL (by decide) r2, keepL (by decide) r3, fun _ => rfl, keepL (by decide) (r5), keepL (by decide) r6, keepL (by decide) r7, keepL (by decide) r8, keepL (by decide) r9, keepL (by decide) r10, keepL (by decide) r11, keepL (by decide) r12, keepL (by decide) r13⟩
    · obtain rfl := Option.some.inj ho
      obtain rfl := r4 (getD_tt (hall ⟨4, .data⟩ (by simp) rfl))
      clear hall ho hi
      unfold wpOp
      go_simp
      refine .inl (hK _ _ ⟨hb3.alloc hb3.size _, _, _, _, _, _, _, _, _, _, _, _, _, _, _, by kernel_rfl, keepL (by decide) r0, keepL (by decide) r1, keepL (by decide) r2, keepL (by decide) r3, keepL (by decide) r4, fun _ => ⟨w3.heap.size, rfl, hb3.size, heap_alloc_new _ _⟩, keepL (by decide) r6, keepL (by decide) r7, keepL (by decide) r8, keepL (by decide) r9, keepL (by decide) r10, keepL (by decide) r11, keepL (by decide) r12, keepL (by decide) r13⟩)
    · obtain rfl := Option.some.inj ho
      obtain ⟨b5, rfl, hb5, hc5⟩ := r5 (getD_tt (hall ⟨5, .data⟩ (by simp) rfl))
      have hv := hcv w3 b5 hc5
      clear hall ho hi
      unfold wpOp
      go_simp
      first | refine .inl (hK _ _ ⟨hb3, _, _, _, _, _, _, _, _, _, _, _, _, _, _, by kernel_rfl, keepL (by decide) r0, keepL (by decide) r1, keepL (by decide) r2, keepL (by decide) r3, keepL (by decide) r4, keepL (by decide) (r5), fun _ => rfl, keepL (by decide) r7, keepL (by decide) r8, keepL (by decide) r9, keepL (by decide) r10, keepL (by decide) r11, keepL (by decide) r12, keepL (by decide) r13⟩) | refine hK _ _ ⟨hb3, _, _, _, _, _, _, _, _, _, _, _, _, _, _, by kernel_rfl, keepL (by decide) r0, keepL (by decide) r1, keepL (by decide) r2, keepL (by decide) r3, keepL (by decide) r4, keepL (by decide) (r5), fun _ => rfl, keepL (by decide) r7, keepL (by decide) r8, keepL (by decide) r9, keepL (by decide) r10, keepL (by decide) r11, keepL (by decide) r12, keepL (by decide) r13⟩
    · obtain rfl := Option.some.inj ho
      clear hall ho hi
      unfold wpOp
      go_simp
      first | refine .inl (hK _ _ ⟨hb3, _, _, _, _, _, _, _, _, _, _, _, _, _, _, by kernel_rfl, keepL (by decide) r0, keepL (by decide) r1, keepL (by decide) r2, keepL (by decide) r3, keepL (by decide) r4, keepL (by decide) (r5), keepL (by decide) r6, fun _ => rfl, keepL (by decide) r8, keepL (by decide) r9, keepL (by decide) r10, keepL (by decide) r11, keepL (by decide) r12, keepL (by decide) r13⟩) | refine hK _ _ ⟨hb3, _, _, _, _, _, _, _, _, _, _, _, _, _, _, by kernel_rfl, keepL (by decide) r0, keepL (by decide) r1, keepL (by decide) r2, keepL (by decide) r3, keepL (by decide) r4, keepL (by decide) (r5), keepL (by decide) r6, fun _ => rfl, keepL (by decide) r8, keepL (by decide) r9, keepL (by decide) r10, keepL (by decide) r11, keepL (by decide) r12, keepL (by decide) r13⟩
    · obtain rfl := Option.some.inj ho
      obtain rfl := r7 (getD_tt (hall ⟨7, .data⟩ (by simp) rfl))
      clear hall ho hi
      have c3 := cG w3 hb3
      have f3 := fG w3 hb3
      unfold wpOp
      go_simp
      first | refine .inl (hK _ _ ⟨hb3, _, _, _, _, _, _, _, _, _, _, _, _, _, _, by kernel_rfl, keepL (by decide) r0, keepL (by decide) r1, keepL (by decide) r2, keepL (by decide) r3, keepL (by decide) r4, keepL (by decide) (r5), keepL (by decide) r6, keepL (by decide) r7, fun _ => rfl, keepL (by decide) r9, keepL (by decide) r10, keepL (by decide) r11, keepL (by decide) r12, keepL (by decide) r13⟩) | refine hK _ _ ⟨hb3, _, _, _, _, _, _, _, _, _, _, _, _, _, _, by kernel_rfl, keepL (by decide) r0, keepL (by decide) r1, keepL (by decide) r2, keepL (by decide) r3, keepL (by decide) r4, keepL (by decide) (r5), keepL (by decide) r6, keepL (by decide) r7, fun _ => rfl, keepL (by decide) r9, keepL (by decide) r10, keepL (by decide) r11, keepL (by decide) r12, keepL (by decide) r13⟩
    · obtain rfl := Option.some.inj ho
      obtain rfl := r8 (getD_tt (hall ⟨8, .data⟩ (by simp) rfl))
      clear hall ho hi
      have hw := W4.out
      unfold wpOp
      go_simp
      first | refine .inl (hK _ _ ⟨hb3, _, _, _, _, _, _, _, _, _, _, _, _, _, _, by kernel_rfl, keepL (by decide) r0, keepL (by decide) r1, keepL (by decide) r2, keepL (by decide) r3, keepL (by decide) r4, keepL (by decide) (r5), keepL (by decide) r6, keepL (by decide) r7, keepL (by decide) r8, fun _ => rfl, keepL (by decide) r10, keepL (by decide) r11, keepL (by decide) r12, keepL (by decide) r13⟩) | refine hK _ _ ⟨hb3, _, _, _, _, _, _, _, _, _, _, _, _, _, _, by kernel_rfl, keepL (by decide) r0, keepL (by decide) r1, keepL (by decide) r2, keepL (by decide) r3, keepL (by decide) r4, keepL (by decide) (r5), keepL (by decide) r6, keepL (by decide) r7, keepL (by decide) r8, fun _ => rfl, keepL (by decide) r10, keepL (by decide) r11, keepL (by decide) r12, keepL (by decide) r13⟩
    · obtain rfl := Option.some.inj ho
      obtain rfl := r9 (getD_tt (hall ⟨9, .data⟩ (by simp) rfl))
      clear hall ho hi
      unfold wpOp
      go_simp
      refine .inl ((H2 _).mono ?_)
      rintro e w4 ⟨rfl, hb4⟩
      refine hK _ _ ⟨below_seq hb3 hb4 (Nat.le_refl _), _, _, _, _, _, _, _, _, _, _, _, _, _, _, by kernel_rfl, keepL (by decide) r0, keepL (by decide) r1, keepL (by decide) r2, keepL (by decide) r3, keepL (by decide) r4, keepL (by decide) (fun h => (r5 h).elim fun b hb => ⟨b, hb.1, hb.2.1, (hb4.block b (ltOf hb.2.2)).trans hb.2.2⟩), keepL (by decide) r6, keepL (by decide) r7, keepL (by decide) r8, keepL (by decide) r9, fun _ => rfl, keepL (by decide) r11, keepL (by decide) r12, keepL (by decide) r13⟩
    · obtain rfl := Option.some.inj ho
      obtain rfl := r6 (getD_tt (hall ⟨6, .data⟩ (by simp) rfl))
      obtain rfl := r10 (getD_tt (hall ⟨10, .data⟩ (by simp) rfl))
      clear hall ho hi
      unfold wpOp
      go_simp
      first | refine .inl (hK _ _ ⟨hb3, _, _, _, _, _, _, _, _, _, _, _, _, _, _, by kernel_rfl, keepL (by decide) r0, keepL (by decide) r1, keepL (by decide) r2, keepL (by decide) r3, keepL (by decide) r4, keepL (by decide) (r5), keepL (by decide) r6, keepL (by decide) r7, keepL (by decide) r8, keepL (by decide) r9, keepL (by decide) r10, fun _ => rfl, keepL (by decide) r12, keepL (by decide) r13⟩) | refine hK _ _ ⟨hb3, _, _, _, _, _, _, _, _, _, _, _, _, _, _, by kernel_rfl, keepL (by decide) r0, keepL (by decide) r1, keepL (by decide) r2, keepL (by decide) r3, keepL (by decide) r4, keepL (by decide) (r5), keepL (by decide) r6, keepL (by decide) r7, keepL (by decide) r8, keepL (by decide) r9, keepL (by decide) r10, fun _ => rfl, keepL (by decide) r12, keepL (by decide) r13⟩
    · obtain rfl := Option.some.inj ho
      obtain rfl := r11 (getD_tt (hall ⟨11, .data⟩ (by simp) rfl))
      clear hall ho hi
      unfold wpOp
      go_simp
      first | refine .inl (hK _ _ ⟨hb3, _, _, _, _, _, _, _, _, _, _, _, _, _, _, by kernel_rfl, keepL (by decide) r0, keepL (by decide) r1, keepL (by decide) r2, keepL (by decide) r3, keepL (by decide) r4, keepL (by decide) (r5), keepL (by decide) r6, keepL (by decide) r7, keepL (by decide) r8, keepL (by decide) r9, keepL (by decide) r10, keepL (by decide) r11, fun _ => rfl, keepL (by decide) r13⟩) | refine hK _ _ ⟨hb3, _, _, _, _, _, _, _, _, _, _, _, _, _, _, by kernel_rfl, keepL (by decide) r0, keepL (by decide) r1, keepL (by decide) r2, keepL (by decide) r3, keepL (by decide) r4, keepL (by decide) (r5), keepL (by decide) r6, keepL (by decide) r7, keepL (by decide) r8, keepL (by decide) r9, keepL (by decide) r10, keepL (by decide) r11, fun _ => rfl, keepL (by decide) r13⟩
    · obtain rfl := Option.some.inj ho
      clear hall ho hi
      unfold wpOp
      go_simp
      first | refine .inl (hK _ _ ⟨hb3, _, _, _, _, _, _, _, _, _, _, _, _, _, _, by kernel_rfl, keepL (by decide) r0, keepL (by decide) r1, keepL (by decide) r2, keepL (by decide) r3, keepL (by decide) r4, keepL (by decide) (r5), keepL (by decide) r6, keepL (by decide) r7, keepL (by decide) r8, keepL (by decide) r9, keepL (by decide) r10, keepL (by decide) r11, keepL (by decide) r12, fun _ => rfl⟩) | refine hK _ _ ⟨hb3, _, _, _, _, _, _, _, _, _, _, _, _, _, _, by kernel_rfl, keepL (by decide) r0, keepL (by decide) r1, keepL (by decide) r2, keepL (by decide) r3, keepL (by decide) r4, keepL (by decide) (r5), keepL (by decide) r6, keepL (by decide) r7, keepL (by decide) r8, keepL (by decide) r9, keepL (by decide) r10, keepL (by decide) r11, keepL (by decide) r12, fun _ => rfl⟩
  · rintro listed a' w3 hs ⟨hb3, x48, x49, x50, x51, x52, x53, x54, x55, x56, x57, x58, x59, x6, x7, rfl, r0, r1, r2, r3, r4, r5, r6, r7, r8, r9, r10, r11, r12, r13⟩ hr
    have hall := all_listed (by kernel_rfl) hr
    obtain rfl := r12 (hall 12 (by decide))
    obtain rfl := r13 (hall 13 (by decide))
    clear r0 r1 r2 r3 r4 r5 r6 r7 r8 r9 r10 r11 r12 r13 hall hr
    go_simp
    go_wp2
    go_ret2
    exact ⟨rfl, below_seq hbB hb3 (Nat.le_refl _)⟩
end Go.Proofs.YtpiclilonkaffaaDoor
