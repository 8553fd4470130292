import Derived.Test.YtdfgdnaejnngoaaDoorMin6
namespace Go.Proofs.YtdfgdnaejnngoaaDoor
open Go.RowKit

def USt (w W : World) (b c c0 : Nat) (o : Ord) (x : Int) : Prop := EAt W c o ∧ UAt W b x ∧ EAt W c0 (ord0 0) ∧ Fr (fun k => k = b) w W
section
variable {w W W' : World} {b c c0 : Nat} {ro : Ord} {rx rx' : Int}
theorem USt.o (h : USt w W b c c0 ro rx) : EAt W c ro := h.1
theorem USt.m (h : USt w W b c c0 ro rx) : UAt W b rx := h.2.1
theorem USt.z (h : USt w W b c c0 ro rx) : EAt W c0 (ord0 0) := h.2.2.1
theorem USt.fr (h : USt w W b c c0 ro rx) : Fr (fun k => k = b) w W := h.2.2.2
theorem USt.new {w1 : World} (ks : Obj) (hb : b < w.heap.size) (hi : UAt w1 b rx) (hf : Fr (fun k => k = b) (((w.alloc (.cells #[.int .i64 0, .string ⟨#[]⟩, .string ⟨#[]⟩, .int .u64 0, .string ⟨#[]⟩, .string ⟨#[]⟩] 35)).alloc (.cells #[.int .i64 0, .string ⟨#[]⟩, .string ⟨#[]⟩, .int .u64 0, .string ⟨#[]⟩, .string ⟨#[]⟩] 35)).alloc ks) w1) :
    w.heap.size + 2 < w1.heap.size ∧ w1.heap[w.heap.size + 2]? = some ks ∧ USt w w1 b (w.heap.size + 1) w.heap.size ⟨0, ⟨#[]⟩, ⟨#[]⟩, 0, ⟨#[]⟩, ⟨#[]⟩⟩ rx := by
  have hs := hf.size
  simp at hs
  refine ⟨by omega, ?_, ?_, hi, ?_, (((Fr.refl (fun k => k = b) w).alloc _).alloc _ |>.alloc _).trans hf (fun _ _ h => h)⟩
  · exact hf.row (by omega) (heap_new_at (by simp))
  · exact hf.row (by omega) (by rw [Below.heap_alloc _ _ _ (by simp)]; exact heap_new_at (by simp))
  · exact hf.row (by omega) (by rw [Below.heap_alloc _ _ _ (by simp; omega), Below.heap_alloc _ _ _ (by simp)]; exact heap_new_at rfl)
theorem USt.drew (h : USt w W b c c0 ro rx) : USt w W.drew b c c0 ro rx := ⟨h.1, h.2.1, h.2.2.1, h.2.2.2.drew⟩
theorem USt.below (h : USt w W b c c0 ro rx) (hf : Below W.heap.size W W') : USt w W' b c c0 ro rx :=
  have hf := Fr.of_below (S := fun _ => False) hf
  ⟨h.1.fr hf id, h.2.1.fr hf id, h.2.2.1.fr hf id, h.2.2.2.trans hf (fun _ _ h => h.elim)⟩
theorem USt.kind (h : USt w W b c c0 ro rx) (hbc : b ≠ c) (hb0 : c0 ≠ c) (hc : w.heap.size ≤ c) (t : Int) : USt w (W.setCell ⟨c, 0, none⟩ (.int .i64 t)) b c c0 { ro with kind := t } rx :=
  have hf := (Fr.refl (fun k => k = c) W).setCell (p := ⟨c, 0, none⟩) (fun _ => rfl) (.int .i64 t)
  ⟨h.1.set_kind t, h.2.1.fr hf hbc, h.2.2.1.fr hf hb0, h.2.2.2.trans hf (fun i hi e => by omega)⟩
theorem USt.call (h : USt w W b c c0 ro rx) (hbc : c ≠ b) (hb0 : c0 ≠ b) (hi : UAt W' b rx') (hf : Fr (fun k => k = b) W W') : USt w W' b c c0 ro rx' :=
  ⟨h.1.fr hf hbc, hi, h.2.2.1.fr hf hb0, h.2.2.2.trans hf (fun _ _ h => h)⟩
theorem USt.key (h : USt w W b c c0 ro rx) (hbc : b ≠ c) (hb0 : c0 ≠ c) (hc : w.heap.size ≤ c) (t : ByteArray) : USt w (W.setCell ⟨c, 1, none⟩ (.string t)) b c c0 { ro with key := t } rx :=
  have hf := (Fr.refl (fun k => k = c) W).setCell (p := ⟨c, 1, none⟩) (fun _ => rfl) (.string t)
  ⟨h.1.set_key t, h.2.1.fr hf hbc, h.2.2.1.fr hf hb0, h.2.2.2.trans hf (fun i hi e => by omega)⟩
theorem USt.val (h : USt w W b c c0 ro rx) (hbc : b ≠ c) (hb0 : c0 ≠ c) (hc : w.heap.size ≤ c) (t : ByteArray) : USt w (W.setCell ⟨c, 2, none⟩ (.string t)) b c c0 { ro with val := t } rx :=
  have hf := (Fr.refl (fun k => k = c) W).setCell (p := ⟨c, 2, none⟩) (fun _ => rfl) (.string t)
  ⟨h.1.set_val t, h.2.1.fr hf hbc, h.2.2.1.fr hf hb0, h.2.2.2.trans hf (fun i hi e => by omega)⟩
theorem USt.lo (h : USt w W b c c0 ro rx) (hbc : b ≠ c) (hb0 : c0 ≠ c) (hc : w.heap.size ≤ c) (t : ByteArray) : USt w (W.setCell ⟨c, 4, none⟩ (.string t)) b c c0 { ro with lo := t } rx :=
  have hf := (Fr.refl (fun k => k = c) W).setCell (p := ⟨c, 4, none⟩) (fun _ => rfl) (.string t)
  ⟨h.1.set_lo t, h.2.1.fr hf hbc, h.2.2.1.fr hf hb0, h.2.2.2.trans hf (fun i hi e => by omega)⟩
theorem USt.hi (h : USt w W b c c0 ro rx) (hbc : b ≠ c) (hb0 : c0 ≠ c) (hc : w.heap.size ≤ c) (t : ByteArray) : USt w (W.setCell ⟨c, 5, none⟩ (.string t)) b c c0 { ro with hi := t } rx :=
  have hf := (Fr.refl (fun k => k = c) W).setCell (p := ⟨c, 5, none⟩) (fun _ => rfl) (.string t)
  ⟨h.1.set_hi t, h.2.1.fr hf hbc, h.2.2.1.fr hf hb0, h.2.2.2.trans hf (fun i hi e => by omega)⟩
theorem USt.n (h : USt w W b c c0 ro rx) (hbc : b ≠ c) (hb0 : c0 ≠ c) (hc : w.heap.size ≤ c) (t : Int) : USt w (W.setCell ⟨c, 3, none⟩ (.int .u64 t)) b c c0 { ro with n := t } rx :=
  have hf := (Fr.refl (fun k => k = c) W).setCell (p := ⟨c, 3, none⟩) (fun _ => rfl) (.int .u64 t)
  ⟨h.1.set_n t, h.2.1.fr hf hbc, h.2.2.1.fr hf hb0, h.2.2.2.trans hf (fun i hi e => by omega)⟩
theorem USt.put (h : USt w W b c c0 ro rx) (hb0 : b ≠ c0) (hc : w.heap.size ≤ c0) (R : Ord) : UAt (put6 W c0 R) b rx ∧ Fr (fun k => k = b) w (put6 W c0 R) :=
  ⟨h.2.1.fr (put6_fr W c0 R) hb0, h.2.2.2.trans (put6_fr W c0 R) (fun i hi e => by omega)⟩
end


theorem kinds_at {w : World} {b : Nat} (r : Nat) (hr : r < 16) (h : w.heap[b]? = some (.cells #[.int .i64 1, .int .i64 1, .int .i64 1, .int .i64 1, .int .i64 1, .int .i64 1, .int .i64 1, .int .i64 2, .int .i64 2, .int .i64 3, .int .i64 3, .int .i64 4, .int .i64 5, .int .i64 6, .int .i64 7, .int .i64 8] 54)) : w.cell? ⟨b, r, none⟩ = some (.int .i64 (kindS r)) := by
  rw [Lib.cell_of_heap h]
  have hc : r = 0 ∨ r = 1 ∨ r = 2 ∨ r = 3 ∨ r = 4 ∨ r = 5 ∨ r = 6 ∨ r = 7 ∨ r = 8 ∨ r = 9 ∨ r = 10 ∨ r = 11 ∨ r = 12 ∨ r = 13 ∨ r = 14 ∨ r = 15 := by omega
  rcases hc with rfl | rfl | rfl | rfl | rfl | rfl | rfl | rfl | rfl | rfl | rfl | rfl | rfl | rfl | rfl | rfl <;> rfl


theorem alpha_at (c : Nat) (h : c < 26) : (⟨#[97, 98, 99, 100, 101, 102, 103, 104, 105, 106, 107, 108, 109, 110, 111, 112, 113, 114, 115, 116, 117, 118, 119, 120, 121, 122]⟩ : ByteArray).extract c (c + 1) = ⟨#[sig c]⟩ := by
  have hc : c = 0 ∨ c = 1 ∨ c = 2 ∨ c = 3 ∨ c = 4 ∨ c = 5 ∨ c = 6 ∨ c = 7 ∨ c = 8 ∨ c = 9 ∨ c = 10 ∨ c = 11 ∨ c = 12 ∨ c = 13 ∨ c = 14 ∨ c = 15 ∨ c = 16 ∨ c = 17 ∨ c = 18 ∨ c = 19 ∨ c = 20 ∨ c = 21 ∨ c = 22 ∨ c = 23 ∨ c = 24 ∨ c = 25 := by omega
  rcases hc with rfl | rfl | rfl | rfl | rfl | rfl | rfl | rfl | rfl | rfl | rfl | rfl | rfl | rfl | rfl | rfl | rfl | rfl | rfl | rfl | rfl | rfl | rfl | rfl | rfl | rfl <;> decide
theorem rep_snoc (x : UInt8) : ∀ j, Lib.repeatL [x] j ++ [x] = Lib.repeatL [x] (j + 1)
  | 0 => rfl
  | j + 1 => by
    rw [Lib.repeatL, List.append_assoc, rep_snoc x j]
    rfl
theorem minmax_le {a b : ByteArray} (h : (Op.bytesLess a.toList b.toList || a.toList == b.toList) = true) : Lib.minS a b = a ∧ Lib.maxS a b = b := by
  rw [Proofs.bytesLess_eq, ByteArray.toList_eq, ByteArray.toList_eq] at h
  simp only [Bool.or_eq_true, decide_eq_true_eq, beq_iff_eq] at h
  unfold Lib.minS Lib.maxS
  refine ⟨if_pos h, ?_⟩
  rcases h with h | h
  · rw [if_pos h]
  · have e : a = b := by
      apply ByteArray.ext
      exact Array.toList_inj.1 h
    rw [e]
    split <;> rfl
theorem minmax_gt {a b : ByteArray} (h : (Op.bytesLess a.toList b.toList || a.toList == b.toList) = false) : Lib.minS a b = b ∧ Lib.maxS a b = a := by
  rw [Proofs.bytesLess_eq, ByteArray.toList_eq, ByteArray.toList_eq] at h
  simp only [Bool.or_eq_false_iff, decide_eq_false_iff_not, beq_eq_false_iff_ne] at h
  unfold Lib.minS Lib.maxS
  exact ⟨if_neg (fun e => e.elim h.1 h.2), if_neg h.1⟩

set_option maxHeartbeats 1000000 in
set_option maxRecDepth 100000 in
theorem uOrder_2 (b r : Nat) (x0 x1 x2 : Int) (k1 : ByteArray) (w : World) (h : UAt w b x0) (hr : r < 16) (hk : kindS r = 2)
    (hbe : ∀ W, UAt W b x0 → Calls Tryd.prog 9 #[.pointer (some ⟨b, 0, none⟩), .int .i64 16] W fun e w' => e = .returned (.int .i64 r) ∧ UAt w' b x1 ∧ Fr (fun k => k = b) W w') (hc0 : ∀ W, UAt W b x1 → Calls Tryd.prog 23 #[.pointer (some ⟨b, 0, none⟩)] W fun e w' => e = .returned (.string k1) ∧ UAt w' b x2 ∧ Fr (fun k => k = b) W w') :
    Calls Tryd.prog 13 #[.pointer (some ⟨b, 0, none⟩)] w fun e w' => e = .returned (Ord.v ⟨2, k1, ⟨#[]⟩, 0, ⟨#[]⟩, ⟨#[]⟩⟩) ∧ UAt w' b x2 ∧ Fr (fun k => k = b) w w' := by
  have hbl := h.lt
  have H0 := Lib.hid (h.below (((Below.alloc (Below.refl w.heap.size w) (Nat.le_refl _) (.cells #[.int .i64 0, .string ⟨#[]⟩, .string ⟨#[]⟩, .int .u64 0, .string ⟨#[]⟩, .string ⟨#[]⟩] 35)).alloc (by simp) (.cells #[.int .i64 0, .string ⟨#[]⟩, .string ⟨#[]⟩, .int .u64 0, .string ⟨#[]⟩, .string ⟨#[]⟩] 35)).alloc (by simp; omega) (.cells #[.int .i64 1, .int .i64 1, .int .i64 1, .int .i64 1, .int .i64 1, .int .i64 1, .int .i64 1, .int .i64 2, .int .i64 2, .int .i64 3, .int .i64 3, .int .i64 4, .int .i64 5, .int .i64 6, .int .i64 7, .int .i64 8] 54)))
  have Hbe := Lib.hid hbe
  have Hk := Lib.hid hk
  have HC0 := Lib.hid hc0
  have hrI : (r : Int) < 16 := by omega
  clear h hbe hk hc0
  go_enter Tryd.func13, Tryd.ntmps13
  go_wp2_with (first | (go_at_call 23; (with_reducible refine (HC0.out _ HS.out.m).mono ?_); rintro e w2 ⟨rfl, hi2, hfr2⟩; have Q1 := True.intro; have HS := Lib.hid (HS.out.call (by omega) (by omega) hi2 hfr2); have hz := HS.out.o; have hv := HS.out.z; have z0 := hz.c0; have fz0 := hz.f 0; have z1 := hz.c1; have fz1 := hz.f 1; have z2 := hz.c2; have fz2 := hz.f 2; have z3 := hz.c3; have fz3 := hz.f 3; have z4 := hz.c4; have fz4 := hz.f 4; have z5 := hz.c5; have fz5 := hz.f 5; have cz0 := hv.c0; have y0 := hv.f 0; have cz1 := hv.c1; have y1 := hv.f 1; have cz2 := hv.c2; have y2 := hv.f 2; have cz3 := hv.c3; have y3 := hv.f 3; have cz4 := hv.c4; have y4 := hv.f 4; have cz5 := hv.c5; have y5 := hv.f 5; clear hi2 hfr2; have HS := Lib.hid (HS.out.key (by omega) (by omega) (by omega) k1); have hz := HS.out.o; have hv := HS.out.z; have z0 := hz.c0; have fz0 := hz.f 0; have z1 := hz.c1; have fz1 := hz.f 1; have z2 := hz.c2; have fz2 := hz.f 2; have z3 := hz.c3; have fz3 := hz.f 3; have z4 := hz.c4; have fz4 := hz.f 4; have z5 := hz.c5; have fz5 := hz.f 5; have cz0 := hv.c0; have y0 := hv.f 0; have cz1 := hv.c1; have y1 := hv.f 1; have cz2 := hv.c2; have y2 := hv.f 2; have cz3 := hv.c3; have y3 := hv.f 3; have cz4 := hv.c4; have y4 := hv.f 4; have cz5 := hv.c5; have y5 := hv.f 5) | (go_at_call 9; (with_reducible refine (Hbe.out _ H0.out).mono ?_); rintro e w1 ⟨rfl, hi1, hfr1⟩; obtain ⟨hlt, hks, hs⟩ := USt.new _ hbl hi1 hfr1; have kc := kinds_at r hr hks; rw [Hk.out] at kc; have HS := Lib.hid hs; have hz := HS.out.o; have hv := HS.out.z; have z0 := hz.c0; have fz0 := hz.f 0; have z1 := hz.c1; have fz1 := hz.f 1; have z2 := hz.c2; have fz2 := hz.f 2; have z3 := hz.c3; have fz3 := hz.f 3; have z4 := hz.c4; have fz4 := hz.f 4; have z5 := hz.c5; have fz5 := hz.f 5; have cz0 := hv.c0; have y0 := hv.f 0; have cz1 := hv.c1; have y1 := hv.f 1; have cz2 := hv.c2; have y2 := hv.f 2; have cz3 := hv.c3; have y3 := hv.f 3; have cz4 := hv.c4; have y4 := hv.f 4; have cz5 := hv.c5; have y5 := hv.f 5; have HS := Lib.hid (HS.out.kind (by omega) (by omega) (by omega) 2); have hz := HS.out.o; have hv := HS.out.z; have z0 := hz.c0; have fz0 := hz.f 0; have z1 := hz.c1; have fz1 := hz.f 1; have z2 := hz.c2; have fz2 := hz.f 2; have z3 := hz.c3; have fz3 := hz.f 3; have z4 := hz.c4; have fz4 := hz.f 4; have z5 := hz.c5; have fz5 := hz.f 5; have cz0 := hv.c0; have y0 := hv.f 0; have cz1 := hv.c1; have y1 := hv.f 1; have cz2 := hv.c2; have y2 := hv.f 2; have cz3 := hv.c3; have y3 := hv.f 3; have cz4 := hv.c4; have y4 := hv.f 4; have cz5 := hv.c5; have y5 := hv.f 5; clear hs hi1 hfr1 hks))
  (try simp only [Exit.inBlock, Exit.then])
  obtain ⟨hm9, hf9⟩ := HS.out.put (by omega) (by omega) ⟨2, k1, ⟨#[]⟩, 0, ⟨#[]⟩, ⟨#[]⟩⟩
  exact bodyPost_ret (v := Ord.v ⟨2, k1, ⟨#[]⟩, 0, ⟨#[]⟩, ⟨#[]⟩⟩) (by simp [results, Tryd.results13, go_sem, Ord.v, cz0, cz1, cz2, cz3, cz4, cz5]) rfl ⟨rfl, hm9, hf9⟩

set_option maxHeartbeats 1000000 in
set_option maxRecDepth 100000 in
theorem uOrder_4 (b r : Nat) (x0 x1 x2 : Int) (k1 : ByteArray) (w : World) (h : UAt w b x0) (hr : r < 16) (hk : kindS r = 4)
    (hbe : ∀ W, UAt W b x0 → Calls Tryd.prog 9 #[.pointer (some ⟨b, 0, none⟩), .int .i64 16] W fun e w' => e = .returned (.int .i64 r) ∧ UAt w' b x1 ∧ Fr (fun k => k = b) W w') (hc0 : ∀ W, UAt W b x1 → Calls Tryd.prog 23 #[.pointer (some ⟨b, 0, none⟩)] W fun e w' => e = .returned (.string k1) ∧ UAt w' b x2 ∧ Fr (fun k => k = b) W w') :
    Calls Tryd.prog 13 #[.pointer (some ⟨b, 0, none⟩)] w fun e w' => e = .returned (Ord.v ⟨4, k1, ⟨#[]⟩, 0, ⟨#[]⟩, ⟨#[]⟩⟩) ∧ UAt w' b x2 ∧ Fr (fun k => k = b) w w' := by
  have hbl := h.lt
  have H0 := Lib.hid (h.below (((Below.alloc (Below.refl w.heap.size w) (Nat.le_refl _) (.cells #[.int .i64 0, .string ⟨#[]⟩, .string ⟨#[]⟩, .int .u64 0, .string ⟨#[]⟩, .string ⟨#[]⟩] 35)).alloc (by simp) (.cells #[.int .i64 0, .string ⟨#[]⟩, .string ⟨#[]⟩, .int .u64 0, .string ⟨#[]⟩, .string ⟨#[]⟩] 35)).alloc (by simp; omega) (.cells #[.int .i64 1, .int .i64 1, .int .i64 1, .int .i64 1, .int .i64 1, .int .i64 1, .int .i64 1, .int .i64 2, .int .i64 2, .int .i64 3, .int .i64 3, .int .i64 4, .int .i64 5, .int .i64 6, .int .i64 7, .int .i64 8] 54)))
  have Hbe := Lib.hid hbe
  have Hk := Lib.hid hk
  have HC0 := Lib.hid hc0
  have hrI : (r : Int) < 16 := by omega
  clear h hbe hk hc0
  go_enter Tryd.func13, Tryd.ntmps13
  go_wp2_with (first | (go_at_call 23; (with_reducible refine (HC0.out _ HS.out.m).mono ?_); rintro e w2 ⟨rfl, hi2, hfr2⟩; have Q1 := True.intro; have HS := Lib.hid (HS.out.call (by omega) (by omega) hi2 hfr2); have hz := HS.out.o; have hv := HS.out.z; have z0 := hz.c0; have fz0 := hz.f 0; have z1 := hz.c1; have fz1 := hz.f 1; have z2 := hz.c2; have fz2 := hz.f 2; have z3 := hz.c3; have fz3 := hz.f 3; have z4 := hz.c4; have fz4 := hz.f 4; have z5 := hz.c5; have fz5 := hz.f 5; have cz0 := hv.c0; have y0 := hv.f 0; have cz1 := hv.c1; have y1 := hv.f 1; have cz2 := hv.c2; have y2 := hv.f 2; have cz3 := hv.c3; have y3 := hv.f 3; have cz4 := hv.c4; have y4 := hv.f 4; have cz5 := hv.c5; have y5 := hv.f 5; clear hi2 hfr2; have HS := Lib.hid (HS.out.key (by omega) (by omega) (by omega) k1); have hz := HS.out.o; have hv := HS.out.z; have z0 := hz.c0; have fz0 := hz.f 0; have z1 := hz.c1; have fz1 := hz.f 1; have z2 := hz.c2; have fz2 := hz.f 2; have z3 := hz.c3; have fz3 := hz.f 3; have z4 := hz.c4; have fz4 := hz.f 4; have z5 := hz.c5; have fz5 := hz.f 5; have cz0 := hv.c0; have y0 := hv.f 0; have cz1 := hv.c1; have y1 := hv.f 1; have cz2 := hv.c2; have y2 := hv.f 2; have cz3 := hv.c3; have y3 := hv.f 3; have cz4 := hv.c4; have y4 := hv.f 4; have cz5 := hv.c5; have y5 := hv.f 5) | (go_at_call 9; (with_reducible refine (Hbe.out _ H0.out).mono ?_); rintro e w1 ⟨rfl, hi1, hfr1⟩; obtain ⟨hlt, hks, hs⟩ := USt.new _ hbl hi1 hfr1; have kc := kinds_at r hr hks; rw [Hk.out] at kc; have HS := Lib.hid hs; have hz := HS.out.o; have hv := HS.out.z; have z0 := hz.c0; have fz0 := hz.f 0; have z1 := hz.c1; have fz1 := hz.f 1; have z2 := hz.c2; have fz2 := hz.f 2; have z3 := hz.c3; have fz3 := hz.f 3; have z4 := hz.c4; have fz4 := hz.f 4; have z5 := hz.c5; have fz5 := hz.f 5; have cz0 := hv.c0; have y0 := hv.f 0; have cz1 := hv.c1; have y1 := hv.f 1; have cz2 := hv.c2; have y2 := hv.f 2; have cz3 := hv.c3; have y3 := hv.f 3; have cz4 := hv.c4; have y4 := hv.f 4; have cz5 := hv.c5; have y5 := hv.f 5; have HS := Lib.hid (HS.out.kind (by omega) (by omega) (by omega) 4); have hz := HS.out.o; have hv := HS.out.z; have z0 := hz.c0; have fz0 := hz.f 0; have z1 := hz.c1; have fz1 := hz.f 1; have z2 := hz.c2; have fz2 := hz.f 2; have z3 := hz.c3; have fz3 := hz.f 3; have z4 := hz.c4; have fz4 := hz.f 4; have z5 := hz.c5; have fz5 := hz.f 5; have cz0 := hv.c0; have y0 := hv.f 0; have cz1 := hv.c1; have y1 := hv.f 1; have cz2 := hv.c2; have y2 := hv.f 2; have cz3 := hv.c3; have y3 := hv.f 3; have cz4 := hv.c4; have y4 := hv.f 4; have cz5 := hv.c5; have y5 := hv.f 5; clear hs hi1 hfr1 hks))
  (try simp only [Exit.inBlock, Exit.then])
  obtain ⟨hm9, hf9⟩ := HS.out.put (by omega) (by omega) ⟨4, k1, ⟨#[]⟩, 0, ⟨#[]⟩, ⟨#[]⟩⟩
  exact bodyPost_ret (v := Ord.v ⟨4, k1, ⟨#[]⟩, 0, ⟨#[]⟩, ⟨#[]⟩⟩) (by simp [results, Tryd.results13, go_sem, Ord.v, cz0, cz1, cz2, cz3, cz4, cz5]) rfl ⟨rfl, hm9, hf9⟩

set_option maxHeartbeats 1000000 in
set_option maxRecDepth 100000 in
theorem uOrder_3 (b r : Nat) (x0 x1 x2 x3 : Int) (k1 : ByteArray) (n1 : Int) (w : World) (h : UAt w b x0) (hr : r < 16) (hk : kindS r = 3)
    (hbe : ∀ W, UAt W b x0 → Calls Tryd.prog 9 #[.pointer (some ⟨b, 0, none⟩), .int .i64 16] W fun e w' => e = .returned (.int .i64 r) ∧ UAt w' b x1 ∧ Fr (fun k => k = b) W w') (hc0 : ∀ W, UAt W b x1 → Calls Tryd.prog 23 #[.pointer (some ⟨b, 0, none⟩)] W fun e w' => e = .returned (.string k1) ∧ UAt w' b x2 ∧ Fr (fun k => k = b) W w') (hc1 : ∀ W, UAt W b x2 → Calls Tryd.prog 8 #[.pointer (some ⟨b, 0, none⟩)] W fun e w' => e = .returned (.int .u64 n1) ∧ UAt w' b x3 ∧ Fr (fun k => k = b) W w') :
    Calls Tryd.prog 13 #[.pointer (some ⟨b, 0, none⟩)] w fun e w' => e = .returned (Ord.v ⟨3, k1, ⟨#[]⟩, n1, ⟨#[]⟩, ⟨#[]⟩⟩) ∧ UAt w' b x3 ∧ Fr (fun k => k = b) w w' := by
  have hbl := h.lt
  have H0 := Lib.hid (h.below (((Below.alloc (Below.refl w.heap.size w) (Nat.le_refl _) (.cells #[.int .i64 0, .string ⟨#[]⟩, .string ⟨#[]⟩, .int .u64 0, .string ⟨#[]⟩, .string ⟨#[]⟩] 35)).alloc (by simp) (.cells #[.int .i64 0, .string ⟨#[]⟩, .string ⟨#[]⟩, .int .u64 0, .string ⟨#[]⟩, .string ⟨#[]⟩] 35)).alloc (by simp; omega) (.cells #[.int .i64 1, .int .i64 1, .int .i64 1, .int .i64 1, .int .i64 1, .int .i64 1, .int .i64 1, .int .i64 2, .int .i64 2, .int .i64 3, .int .i64 3, .int .i64 4, .int .i64 5, .int .i64 6, .int .i64 7, .int .i64 8] 54)))
  have Hbe := Lib.hid hbe
  have Hk := Lib.hid hk
  have HC0 := Lib.hid hc0
  have HC1 := Lib.hid hc1
  have hrI : (r : Int) < 16 := by omega
  clear h hbe hk hc0 hc1
  go_enter Tryd.func13, Tryd.ntmps13
  go_wp2_with (first | (have _q := Q1; go_at_call 8; (with_reducible refine (HC1.out _ HS.out.m).mono ?_); rintro e w3 ⟨rfl, hi2, hfr2⟩; have Q2 := True.intro; have HS := Lib.hid (HS.out.call (by omega) (by omega) hi2 hfr2); have hz := HS.out.o; have hv := HS.out.z; have z0 := hz.c0; have fz0 := hz.f 0; have z1 := hz.c1; have fz1 := hz.f 1; have z2 := hz.c2; have fz2 := hz.f 2; have z3 := hz.c3; have fz3 := hz.f 3; have z4 := hz.c4; have fz4 := hz.f 4; have z5 := hz.c5; have fz5 := hz.f 5; have cz0 := hv.c0; have y0 := hv.f 0; have cz1 := hv.c1; have y1 := hv.f 1; have cz2 := hv.c2; have y2 := hv.f 2; have cz3 := hv.c3; have y3 := hv.f 3; have cz4 := hv.c4; have y4 := hv.f 4; have cz5 := hv.c5; have y5 := hv.f 5; clear hi2 hfr2; have HS := Lib.hid (HS.out.n (by omega) (by omega) (by omega) n1); have hz := HS.out.o; have hv := HS.out.z; have z0 := hz.c0; have fz0 := hz.f 0; have z1 := hz.c1; have fz1 := hz.f 1; have z2 := hz.c2; have fz2 := hz.f 2; have z3 := hz.c3; have fz3 := hz.f 3; have z4 := hz.c4; have fz4 := hz.f 4; have z5 := hz.c5; have fz5 := hz.f 5; have cz0 := hv.c0; have y0 := hv.f 0; have cz1 := hv.c1; have y1 := hv.f 1; have cz2 := hv.c2; have y2 := hv.f 2; have cz3 := hv.c3; have y3 := hv.f 3; have cz4 := hv.c4; have y4 := hv.f 4; have cz5 := hv.c5; have y5 := hv.f 5) | (go_at_call 23; (with_reducible refine (HC0.out _ HS.out.m).mono ?_); rintro e w2 ⟨rfl, hi2, hfr2⟩; have Q1 := True.intro; have HS := Lib.hid (HS.out.call (by omega) (by omega) hi2 hfr2); have hz := HS.out.o; have hv := HS.out.z; have z0 := hz.c0; have fz0 := hz.f 0; have z1 := hz.c1; have fz1 := hz.f 1; have z2 := hz.c2; have fz2 := hz.f 2; have z3 := hz.c3; have fz3 := hz.f 3; have z4 := hz.c4; have fz4 := hz.f 4; have z5 := hz.c5; have fz5 := hz.f 5; have cz0 := hv.c0; have y0 := hv.f 0; have cz1 := hv.c1; have y1 := hv.f 1; have cz2 := hv.c2; have y2 := hv.f 2; have cz3 := hv.c3; have y3 := hv.f 3; have cz4 := hv.c4; have y4 := hv.f 4; have cz5 := hv.c5; have y5 := hv.f 5; clear hi2 hfr2; have HS := Lib.hid (HS.out.key (by omega) (by omega) (by omega) k1); have hz := HS.out.o; have hv := HS.out.z; have z0 := hz.c0; have fz0 := hz.f 0; have z1 := hz.c1; have fz1 := hz.f 1; have z2 := hz.c2; have fz2 := hz.f 2; have z3 := hz.c3; have fz3 := hz.f 3; have z4 := hz.c4; have fz4 := hz.f 4; have z5 := hz.c5; have fz5 := hz.f 5; have cz0 := hv.c0; have y0 := hv.f 0; have cz1 := hv.c1; have y1 := hv.f 1; have cz2 := hv.c2; have y2 := hv.f 2; have cz3 := hv.c3; have y3 := hv.f 3; have cz4 := hv.c4; have y4 := hv.f 4; have cz5 := hv.c5; have y5 := hv.f 5) | (go_at_call 9; (with_reducible refine (Hbe.out _ H0.out).mono ?_); rintro e w1 ⟨rfl, hi1, hfr1⟩; obtain ⟨hlt, hks, hs⟩ := USt.new _ hbl hi1 hfr1; have kc := kinds_at r hr hks; rw [Hk.out] at kc; have HS := Lib.hid hs; have hz := HS.out.o; have hv := HS.out.z; have z0 := hz.c0; have fz0 := hz.f 0; have z1 := hz.c1; have fz1 := hz.f 1; have z2 := hz.c2; have fz2 := hz.f 2; have z3 := hz.c3; have fz3 := hz.f 3; have z4 := hz.c4; have fz4 := hz.f 4; have z5 := hz.c5; have fz5 := hz.f 5; have cz0 := hv.c0; have y0 := hv.f 0; have cz1 := hv.c1; have y1 := hv.f 1; have cz2 := hv.c2; have y2 := hv.f 2; have cz3 := hv.c3; have y3 := hv.f 3; have cz4 := hv.c4; have y4 := hv.f 4; have cz5 := hv.c5; have y5 := hv.f 5; have HS := Lib.hid (HS.out.kind (by omega) (by omega) (by omega) 3); have hz := HS.out.o; have hv := HS.out.z; have z0 := hz.c0; have fz0 := hz.f 0; have z1 := hz.c1; have fz1 := hz.f 1; have z2 := hz.c2; have fz2 := hz.f 2; have z3 := hz.c3; have fz3 := hz.f 3; have z4 := hz.c4; have fz4 := hz.f 4; have z5 := hz.c5; have fz5 := hz.f 5; have cz0 := hv.c0; have y0 := hv.f 0; have cz1 := hv.c1; have y1 := hv.f 1; have cz2 := hv.c2; have y2 := hv.f 2; have cz3 := hv.c3; have y3 := hv.f 3; have cz4 := hv.c4; have y4 := hv.f 4; have cz5 := hv.c5; have y5 := hv.f 5; clear hs hi1 hfr1 hks))
  (try simp only [Exit.inBlock, Exit.then])
  obtain ⟨hm9, hf9⟩ := HS.out.put (by omega) (by omega) ⟨3, k1, ⟨#[]⟩, n1, ⟨#[]⟩, ⟨#[]⟩⟩
  exact bodyPost_ret (v := Ord.v ⟨3, k1, ⟨#[]⟩, n1, ⟨#[]⟩, ⟨#[]⟩⟩) (by simp [results, Tryd.results13, go_sem, Ord.v, cz0, cz1, cz2, cz3, cz4, cz5]) rfl ⟨rfl, hm9, hf9⟩

set_option maxHeartbeats 1000000 in
set_option maxRecDepth 100000 in
theorem uOrder_5 (b r : Nat) (x0 x1 x2 x3 : Int) (k1 : ByteArray) (k2 : ByteArray) (w : World) (h : UAt w b x0) (hr : r < 16) (hk : kindS r = 5)
    (hbe : ∀ W, UAt W b x0 → Calls Tryd.prog 9 #[.pointer (some ⟨b, 0, none⟩), .int .i64 16] W fun e w' => e = .returned (.int .i64 r) ∧ UAt w' b x1 ∧ Fr (fun k => k = b) W w') (hc0 : ∀ W, UAt W b x1 → Calls Tryd.prog 23 #[.pointer (some ⟨b, 0, none⟩)] W fun e w' => e = .returned (.string k1) ∧ UAt w' b x2 ∧ Fr (fun k => k = b) W w') (hc1 : ∀ W, UAt W b x2 → Calls Tryd.prog 23 #[.pointer (some ⟨b, 0, none⟩)] W fun e w' => e = .returned (.string k2) ∧ UAt w' b x3 ∧ Fr (fun k => k = b) W w') :
    Calls Tryd.prog 13 #[.pointer (some ⟨b, 0, none⟩)] w fun e w' => e = .returned (Ord.v ⟨5, ⟨#[]⟩, ⟨#[]⟩, 0, (Lib.minS k1 k2), (Lib.maxS k1 k2)⟩) ∧ UAt w' b x3 ∧ Fr (fun k => k = b) w w' := by
  have hbl := h.lt
  have H0 := Lib.hid (h.below (((Below.alloc (Below.refl w.heap.size w) (Nat.le_refl _) (.cells #[.int .i64 0, .string ⟨#[]⟩, .string ⟨#[]⟩, .int .u64 0, .string ⟨#[]⟩, .string ⟨#[]⟩] 35)).alloc (by simp) (.cells #[.int .i64 0, .string ⟨#[]⟩, .string ⟨#[]⟩, .int .u64 0, .string ⟨#[]⟩, .string ⟨#[]⟩] 35)).alloc (by simp; omega) (.cells #[.int .i64 1, .int .i64 1, .int .i64 1, .int .i64 1, .int .i64 1, .int .i64 1, .int .i64 1, .int .i64 2, .int .i64 2, .int .i64 3, .int .i64 3, .int .i64 4, .int .i64 5, .int .i64 6, .int .i64 7, .int .i64 8] 54)))
  have Hbe := Lib.hid hbe
  have Hk := Lib.hid hk
  have HC0 := Lib.hid hc0
  have HC1 := Lib.hid hc1
  have hrI : (r : Int) < 16 := by omega
  clear h hbe hk hc0 hc1
  cases hg : (Op.bytesLess k1.toList k2.toList || k1.toList == k2.toList)
  · obtain ⟨e1, e2⟩ := minmax_gt hg
    rw [e1, e2]
    clear e1 e2
    go_enter Tryd.func13, Tryd.ntmps13
    go_wp2_with (first | (have _q := Q1; go_at_call 23; (with_reducible refine (HC1.out _ HS.out.m).mono ?_); rintro e w3 ⟨rfl, hi2, hfr2⟩; have Q2 := True.intro; have HS := Lib.hid (HS.out.call (by omega) (by omega) hi2 hfr2); have hz := HS.out.o; have hv := HS.out.z; have z0 := hz.c0; have fz0 := hz.f 0; have z1 := hz.c1; have fz1 := hz.f 1; have z2 := hz.c2; have fz2 := hz.f 2; have z3 := hz.c3; have fz3 := hz.f 3; have z4 := hz.c4; have fz4 := hz.f 4; have z5 := hz.c5; have fz5 := hz.f 5; have cz0 := hv.c0; have y0 := hv.f 0; have cz1 := hv.c1; have y1 := hv.f 1; have cz2 := hv.c2; have y2 := hv.f 2; have cz3 := hv.c3; have y3 := hv.f 3; have cz4 := hv.c4; have y4 := hv.f 4; have cz5 := hv.c5; have y5 := hv.f 5; clear hi2 hfr2; have HS := Lib.hid (HS.out.hi (by omega) (by omega) (by omega) k2); have hz := HS.out.o; have hv := HS.out.z; have z0 := hz.c0; have fz0 := hz.f 0; have z1 := hz.c1; have fz1 := hz.f 1; have z2 := hz.c2; have fz2 := hz.f 2; have z3 := hz.c3; have fz3 := hz.f 3; have z4 := hz.c4; have fz4 := hz.f 4; have z5 := hz.c5; have fz5 := hz.f 5; have cz0 := hv.c0; have y0 := hv.f 0; have cz1 := hv.c1; have y1 := hv.f 1; have cz2 := hv.c2; have y2 := hv.f 2; have cz3 := hv.c3; have y3 := hv.f 3; have cz4 := hv.c4; have y4 := hv.f 4; have cz5 := hv.c5; have y5 := hv.f 5) | (go_at_call 23; (with_reducible refine (HC0.out _ HS.out.m).mono ?_); rintro e w2 ⟨rfl, hi2, hfr2⟩; have Q1 := True.intro; have HS := Lib.hid (HS.out.call (by omega) (by omega) hi2 hfr2); have hz := HS.out.o; have hv := HS.out.z; have z0 := hz.c0; have fz0 := hz.f 0; have z1 := hz.c1; have fz1 := hz.f 1; have z2 := hz.c2; have fz2 := hz.f 2; have z3 := hz.c3; have fz3 := hz.f 3; have z4 := hz.c4; have fz4 := hz.f 4; have z5 := hz.c5; have fz5 := hz.f 5; have cz0 := hv.c0; have y0 := hv.f 0; have cz1 := hv.c1; have y1 := hv.f 1; have cz2 := hv.c2; have y2 := hv.f 2; have cz3 := hv.c3; have y3 := hv.f 3; have cz4 := hv.c4; have y4 := hv.f 4; have cz5 := hv.c5; have y5 := hv.f 5; clear hi2 hfr2; have HS := Lib.hid (HS.out.lo (by omega) (by omega) (by omega) k1); have hz := HS.out.o; have hv := HS.out.z; have z0 := hz.c0; have fz0 := hz.f 0; have z1 := hz.c1; have fz1 := hz.f 1; have z2 := hz.c2; have fz2 := hz.f 2; have z3 := hz.c3; have fz3 := hz.f 3; have z4 := hz.c4; have fz4 := hz.f 4; have z5 := hz.c5; have fz5 := hz.f 5; have cz0 := hv.c0; have y0 := hv.f 0; have cz1 := hv.c1; have y1 := hv.f 1; have cz2 := hv.c2; have y2 := hv.f 2; have cz3 := hv.c3; have y3 := hv.f 3; have cz4 := hv.c4; have y4 := hv.f 4; have cz5 := hv.c5; have y5 := hv.f 5) | (go_at_call 9; (with_reducible refine (Hbe.out _ H0.out).mono ?_); rintro e w1 ⟨rfl, hi1, hfr1⟩; obtain ⟨hlt, hks, hs⟩ := USt.new _ hbl hi1 hfr1; have kc := kinds_at r hr hks; rw [Hk.out] at kc; have HS := Lib.hid hs; have hz := HS.out.o; have hv := HS.out.z; have z0 := hz.c0; have fz0 := hz.f 0; have z1 := hz.c1; have fz1 := hz.f 1; have z2 := hz.c2; have fz2 := hz.f 2; have z3 := hz.c3; have fz3 := hz.f 3; have z4 := hz.c4; have fz4 := hz.f 4; have z5 := hz.c5; have fz5 := hz.f 5; have cz0 := hv.c0; have y0 := hv.f 0; have cz1 := hv.c1; have y1 := hv.f 1; have cz2 := hv.c2; have y2 := hv.f 2; have cz3 := hv.c3; have y3 := hv.f 3; have cz4 := hv.c4; have y4 := hv.f 4; have cz5 := hv.c5; have y5 := hv.f 5; have HS := Lib.hid (HS.out.kind (by omega) (by omega) (by omega) 5); have hz := HS.out.o; have hv := HS.out.z; have z0 := hz.c0; have fz0 := hz.f 0; have z1 := hz.c1; have fz1 := hz.f 1; have z2 := hz.c2; have fz2 := hz.f 2; have z3 := hz.c3; have fz3 := hz.f 3; have z4 := hz.c4; have fz4 := hz.f 4; have z5 := hz.c5; have fz5 := hz.f 5; have cz0 := hv.c0; have y0 := hv.f 0; have cz1 := hv.c1; have y1 := hv.f 1; have cz2 := hv.c2; have y2 := hv.f 2; have cz3 := hv.c3; have y3 := hv.f 3; have cz4 := hv.c4; have y4 := hv.f 4; have cz5 := hv.c5; have y5 := hv.f 5; clear hs hi1 hfr1 hks))
    have HS := Lib.hid (HS.out.lo (by omega) (by omega) (by omega) k2)
    have HS := Lib.hid (HS.out.hi (by omega) (by omega) (by omega) k1)
    (try simp only [Exit.inBlock, Exit.then])
    obtain ⟨hm9, hf9⟩ := HS.out.put (by omega) (by omega) ⟨5, ⟨#[]⟩, ⟨#[]⟩, 0, k2, k1⟩
    exact bodyPost_ret (v := Ord.v ⟨5, ⟨#[]⟩, ⟨#[]⟩, 0, k2, k1⟩) (by simp [results, Tryd.results13, go_sem, Ord.v, cz0, cz1, cz2, cz3, cz4, cz5]) rfl ⟨rfl, hm9, hf9⟩
  · obtain ⟨e1, e2⟩ := minmax_le hg
    rw [e1, e2]
    clear e1 e2
    go_enter Tryd.func13, Tryd.ntmps13
    go_wp2_with (first | (have _q := Q1; go_at_call 23; (with_reducible refine (HC1.out _ HS.out.m).mono ?_); rintro e w3 ⟨rfl, hi2, hfr2⟩; have Q2 := True.intro; have HS := Lib.hid (HS.out.call (by omega) (by omega) hi2 hfr2); have hz := HS.out.o; have hv := HS.out.z; have z0 := hz.c0; have fz0 := hz.f 0; have z1 := hz.c1; have fz1 := hz.f 1; have z2 := hz.c2; have fz2 := hz.f 2; have z3 := hz.c3; have fz3 := hz.f 3; have z4 := hz.c4; have fz4 := hz.f 4; have z5 := hz.c5; have fz5 := hz.f 5; have cz0 := hv.c0; have y0 := hv.f 0; have cz1 := hv.c1; have y1 := hv.f 1; have cz2 := hv.c2; have y2 := hv.f 2; have cz3 := hv.c3; have y3 := hv.f 3; have cz4 := hv.c4; have y4 := hv.f 4; have cz5 := hv.c5; have y5 := hv.f 5; clear hi2 hfr2; have HS := Lib.hid (HS.out.hi (by omega) (by omega) (by omega) k2); have hz := HS.out.o; have hv := HS.out.z; have z0 := hz.c0; have fz0 := hz.f 0; have z1 := hz.c1; have fz1 := hz.f 1; have z2 := hz.c2; have fz2 := hz.f 2; have z3 := hz.c3; have fz3 := hz.f 3; have z4 := hz.c4; have fz4 := hz.f 4; have z5 := hz.c5; have fz5 := hz.f 5; have cz0 := hv.c0; have y0 := hv.f 0; have cz1 := hv.c1; have y1 := hv.f 1; have cz2 := hv.c2; have y2 := hv.f 2; have cz3 := hv.c3; have y3 := hv.f 3; have cz4 := hv.c4; have y4 := hv.f 4; have cz5 := hv.c5; have y5 := hv.f 5) | (go_at_call 23; (with_reducible refine (HC0.out _ HS.out.m).mono ?_); rintro e w2 ⟨rfl, hi2, hfr2⟩; have Q1 := True.intro; have HS := Lib.hid (HS.out.call (by omega) (by omega) hi2 hfr2); have hz := HS.out.o; have hv := HS.out.z; have z0 := hz.c0; have fz0 := hz.f 0; have z1 := hz.c1; have fz1 := hz.f 1; have z2 := hz.c2; have fz2 := hz.f 2; have z3 := hz.c3; have fz3 := hz.f 3; have z4 := hz.c4; have fz4 := hz.f 4; have z5 := hz.c5; have fz5 := hz.f 5; have cz0 := hv.c0; have y0 := hv.f 0; have cz1 := hv.c1; have y1 := hv.f 1; have cz2 := hv.c2; have y2 := hv.f 2; have cz3 := hv.c3; have y3 := hv.f 3; have cz4 := hv.c4; have y4 := hv.f 4; have cz5 := hv.c5; have y5 := hv.f 5; clear hi2 hfr2; have HS := Lib.hid (HS.out.lo (by omega) (by omega) (by omega) k1); have hz := HS.out.o; have hv := HS.out.z; have z0 := hz.c0; have fz0 := hz.f 0; have z1 := hz.c1; have fz1 := hz.f 1; have z2 := hz.c2; have fz2 := hz.f 2; have z3 := hz.c3; have fz3 := hz.f 3; have z4 := hz.c4; have fz4 := hz.f 4; have z5 := hz.c5; have fz5 := hz.f 5; have cz0 := hv.c0; have y0 := hv.f 0; have cz1 := hv.c1; have y1 := hv.f 1; have cz2 := hv.c2; have y2 := hv.f 2; have cz3 := hv.c3; have y3 := hv.f 3; have cz4 := hv.c4; have y4 := hv.f 4; have cz5 := hv.c5; have y5 := hv.f 5) | (go_at_call 9; (with_reducible refine (Hbe.out _ H0.out).mono ?_); rintro e w1 ⟨rfl, hi1, hfr1⟩; obtain ⟨hlt, hks, hs⟩ := USt.new _ hbl hi1 hfr1; have kc := kinds_at r hr hks; rw [Hk.out] at kc; have HS := Lib.hid hs; have hz := HS.out.o; have hv := HS.out.z; have z0 := hz.c0; have fz0 := hz.f 0; have z1 := hz.c1; have fz1 := hz.f 1; have z2 := hz.c2; have fz2 := hz.f 2; have z3 := hz.c3; have fz3 := hz.f 3; have z4 := hz.c4; have fz4 := hz.f 4; have z5 := hz.c5; have fz5 := hz.f 5; have cz0 := hv.c0; have y0 := hv.f 0; have cz1 := hv.c1; have y1 := hv.f 1; have cz2 := hv.c2; have y2 := hv.f 2; have cz3 := hv.c3; have y3 := hv.f 3; have cz4 := hv.c4; have y4 := hv.f 4; have cz5 := hv.c5; have y5 := hv.f 5; have HS := Lib.hid (HS.out.kind (by omega) (by omega) (by omega) 5); have hz := HS.out.o; have hv := HS.out.z; have z0 := hz.c0; have fz0 := hz.f 0; have z1 := hz.c1; have fz1 := hz.f 1; have z2 := hz.c2; have fz2 := hz.f 2; have z3 := hz.c3; have fz3 := hz.f 3; have z4 := hz.c4; have fz4 := hz.f 4; have z5 := hz.c5; have fz5 := hz.f 5; have cz0 := hv.c0; have y0 := hv.f 0; have cz1 := hv.c1; have y1 := hv.f 1; have cz2 := hv.c2; have y2 := hv.f 2; have cz3 := hv.c3; have y3 := hv.f 3; have cz4 := hv.c4; have y4 := hv.f 4; have cz5 := hv.c5; have y5 := hv.f 5; clear hs hi1 hfr1 hks))
    (try simp only [Exit.inBlock, Exit.then])
    obtain ⟨hm9, hf9⟩ := HS.out.put (by omega) (by omega) ⟨5, ⟨#[]⟩, ⟨#[]⟩, 0, k1, k2⟩
    exact bodyPost_ret (v := Ord.v ⟨5, ⟨#[]⟩, ⟨#[]⟩, 0, k1, k2⟩) (by simp [results, Tryd.results13, go_sem, Ord.v, cz0, cz1, cz2, cz3, cz4, cz5]) rfl ⟨rfl, hm9, hf9⟩

set_option maxHeartbeats 1000000 in
set_option maxRecDepth 100000 in
theorem uOrder_6 (b r : Nat) (x0 x1 : Int) (w : World) (h : UAt w b x0) (hr : r < 16) (hk : kindS r = 6)
    (hbe : ∀ W, UAt W b x0 → Calls Tryd.prog 9 #[.pointer (some ⟨b, 0, none⟩), .int .i64 16] W fun e w' => e = .returned (.int .i64 r) ∧ UAt w' b x1 ∧ Fr (fun k => k = b) W w')  :
    Calls Tryd.prog 13 #[.pointer (some ⟨b, 0, none⟩)] w fun e w' => e = .returned (Ord.v ⟨6, ⟨#[]⟩, ⟨#[]⟩, 0, ⟨#[]⟩, ⟨#[]⟩⟩) ∧ UAt w' b x1 ∧ Fr (fun k => k = b) w w' := by
  have hbl := h.lt
  have H0 := Lib.hid (h.below (((Below.alloc (Below.refl w.heap.size w) (Nat.le_refl _) (.cells #[.int .i64 0, .string ⟨#[]⟩, .string ⟨#[]⟩, .int .u64 0, .string ⟨#[]⟩, .string ⟨#[]⟩] 35)).alloc (by simp) (.cells #[.int .i64 0, .string ⟨#[]⟩, .string ⟨#[]⟩, .int .u64 0, .string ⟨#[]⟩, .string ⟨#[]⟩] 35)).alloc (by simp; omega) (.cells #[.int .i64 1, .int .i64 1, .int .i64 1, .int .i64 1, .int .i64 1, .int .i64 1, .int .i64 1, .int .i64 2, .int .i64 2, .int .i64 3, .int .i64 3, .int .i64 4, .int .i64 5, .int .i64 6, .int .i64 7, .int .i64 8] 54)))
  have Hbe := Lib.hid hbe
  have Hk := Lib.hid hk
  have hrI : (r : Int) < 16 := by omega
  clear h hbe hk 
  go_enter Tryd.func13, Tryd.ntmps13
  go_wp2_with (first | (go_at_call 9; (with_reducible refine (Hbe.out _ H0.out).mono ?_); rintro e w1 ⟨rfl, hi1, hfr1⟩; obtain ⟨hlt, hks, hs⟩ := USt.new _ hbl hi1 hfr1; have kc := kinds_at r hr hks; rw [Hk.out] at kc; have HS := Lib.hid hs; have hz := HS.out.o; have hv := HS.out.z; have z0 := hz.c0; have fz0 := hz.f 0; have z1 := hz.c1; have fz1 := hz.f 1; have z2 := hz.c2; have fz2 := hz.f 2; have z3 := hz.c3; have fz3 := hz.f 3; have z4 := hz.c4; have fz4 := hz.f 4; have z5 := hz.c5; have fz5 := hz.f 5; have cz0 := hv.c0; have y0 := hv.f 0; have cz1 := hv.c1; have y1 := hv.f 1; have cz2 := hv.c2; have y2 := hv.f 2; have cz3 := hv.c3; have y3 := hv.f 3; have cz4 := hv.c4; have y4 := hv.f 4; have cz5 := hv.c5; have y5 := hv.f 5; have HS := Lib.hid (HS.out.kind (by omega) (by omega) (by omega) 6); have hz := HS.out.o; have hv := HS.out.z; have z0 := hz.c0; have fz0 := hz.f 0; have z1 := hz.c1; have fz1 := hz.f 1; have z2 := hz.c2; have fz2 := hz.f 2; have z3 := hz.c3; have fz3 := hz.f 3; have z4 := hz.c4; have fz4 := hz.f 4; have z5 := hz.c5; have fz5 := hz.f 5; have cz0 := hv.c0; have y0 := hv.f 0; have cz1 := hv.c1; have y1 := hv.f 1; have cz2 := hv.c2; have y2 := hv.f 2; have cz3 := hv.c3; have y3 := hv.f 3; have cz4 := hv.c4; have y4 := hv.f 4; have cz5 := hv.c5; have y5 := hv.f 5; clear hs hi1 hfr1 hks))
  (try simp only [Exit.inBlock, Exit.then])
  obtain ⟨hm9, hf9⟩ := HS.out.put (by omega) (by omega) ⟨6, ⟨#[]⟩, ⟨#[]⟩, 0, ⟨#[]⟩, ⟨#[]⟩⟩
  exact bodyPost_ret (v := Ord.v ⟨6, ⟨#[]⟩, ⟨#[]⟩, 0, ⟨#[]⟩, ⟨#[]⟩⟩) (by simp [results, Tryd.results13, go_sem, Ord.v, cz0, cz1, cz2, cz3, cz4, cz5]) rfl ⟨rfl, hm9, hf9⟩

set_option maxHeartbeats 1000000 in
set_option maxRecDepth 100000 in
theorem uOrder_7 (b r : Nat) (x0 x1 : Int) (w : World) (h : UAt w b x0) (hr : r < 16) (hk : kindS r = 7)
    (hbe : ∀ W, UAt W b x0 → Calls Tryd.prog 9 #[.pointer (some ⟨b, 0, none⟩), .int .i64 16] W fun e w' => e = .returned (.int .i64 r) ∧ UAt w' b x1 ∧ Fr (fun k => k = b) W w')  :
    Calls Tryd.prog 13 #[.pointer (some ⟨b, 0, none⟩)] w fun e w' => e = .returned (Ord.v ⟨7, ⟨#[]⟩, ⟨#[]⟩, 0, ⟨#[]⟩, ⟨#[]⟩⟩) ∧ UAt w' b x1 ∧ Fr (fun k => k = b) w w' := by
  have hbl := h.lt
  have H0 := Lib.hid (h.below (((Below.alloc (Below.refl w.heap.size w) (Nat.le_refl _) (.cells #[.int .i64 0, .string ⟨#[]⟩, .string ⟨#[]⟩, .int .u64 0, .string ⟨#[]⟩, .string ⟨#[]⟩] 35)).alloc (by simp) (.cells #[.int .i64 0, .string ⟨#[]⟩, .string ⟨#[]⟩, .int .u64 0, .string ⟨#[]⟩, .string ⟨#[]⟩] 35)).alloc (by simp; omega) (.cells #[.int .i64 1, .int .i64 1, .int .i64 1, .int .i64 1, .int .i64 1, .int .i64 1, .int .i64 1, .int .i64 2, .int .i64 2, .int .i64 3, .int .i64 3, .int .i64 4, .int .i64 5, .int .i64 6, .int .i64 7, .int .i64 8] 54)))
  have Hbe := Lib.hid hbe
  have Hk := Lib.hid hk
  have hrI : (r : Int) < 16 := by omega
  clear h hbe hk 
  go_enter Tryd.func13, Tryd.ntmps13
  go_wp2_with (first | (go_at_call 9; (with_reducible refine (Hbe.out _ H0.out).mono ?_); rintro e w1 ⟨rfl, hi1, hfr1⟩; obtain ⟨hlt, hks, hs⟩ := USt.new _ hbl hi1 hfr1; have kc := kinds_at r hr hks; rw [Hk.out] at kc; have HS := Lib.hid hs; have hz := HS.out.o; have hv := HS.out.z; have z0 := hz.c0; have fz0 := hz.f 0; have z1 := hz.c1; have fz1 := hz.f 1; have z2 := hz.c2; have fz2 := hz.f 2; have z3 := hz.c3; have fz3 := hz.f 3; have z4 := hz.c4; have fz4 := hz.f 4; have z5 := hz.c5; have fz5 := hz.f 5; have cz0 := hv.c0; have y0 := hv.f 0; have cz1 := hv.c1; have y1 := hv.f 1; have cz2 := hv.c2; have y2 := hv.f 2; have cz3 := hv.c3; have y3 := hv.f 3; have cz4 := hv.c4; have y4 := hv.f 4; have cz5 := hv.c5; have y5 := hv.f 5; have HS := Lib.hid (HS.out.kind (by omega) (by omega) (by omega) 7); have hz := HS.out.o; have hv := HS.out.z; have z0 := hz.c0; have fz0 := hz.f 0; have z1 := hz.c1; have fz1 := hz.f 1; have z2 := hz.c2; have fz2 := hz.f 2; have z3 := hz.c3; have fz3 := hz.f 3; have z4 := hz.c4; have fz4 := hz.f 4; have z5 := hz.c5; have fz5 := hz.f 5; have cz0 := hv.c0; have y0 := hv.f 0; have cz1 := hv.c1; have y1 := hv.f 1; have cz2 := hv.c2; have y2 := hv.f 2; have cz3 := hv.c3; have y3 := hv.f 3; have cz4 := hv.c4; have y4 := hv.f 4; have cz5 := hv.c5; have y5 := hv.f 5; clear hs hi1 hfr1 hks))
  (try simp only [Exit.inBlock, Exit.then])
  obtain ⟨hm9, hf9⟩ := HS.out.put (by omega) (by omega) ⟨7, ⟨#[]⟩, ⟨#[]⟩, 0, ⟨#[]⟩, ⟨#[]⟩⟩
  exact bodyPost_ret (v := Ord.v ⟨7, ⟨#[]⟩, ⟨#[]⟩, 0, ⟨#[]⟩, ⟨#[]⟩⟩) (by simp [results, Tryd.results13, go_sem, Ord.v, cz0, cz1, cz2, cz3, cz4, cz5]) rfl ⟨rfl, hm9, hf9⟩

set_option maxHeartbeats 1000000 in
set_option maxRecDepth 100000 in
theorem uOrder_8 (b r : Nat) (x0 x1 : Int) (w : World) (h : UAt w b x0) (hr : r < 16) (hk : kindS r = 8)
    (hbe : ∀ W, UAt W b x0 → Calls Tryd.prog 9 #[.pointer (some ⟨b, 0, none⟩), .int .i64 16] W fun e w' => e = .returned (.int .i64 r) ∧ UAt w' b x1 ∧ Fr (fun k => k = b) W w')  :
    Calls Tryd.prog 13 #[.pointer (some ⟨b, 0, none⟩)] w fun e w' => e = .returned (Ord.v ⟨8, ⟨#[]⟩, ⟨#[]⟩, 0, ⟨#[]⟩, ⟨#[]⟩⟩) ∧ UAt w' b x1 ∧ Fr (fun k => k = b) w w' := by
  have hbl := h.lt
  have H0 := Lib.hid (h.below (((Below.alloc (Below.refl w.heap.size w) (Nat.le_refl _) (.cells #[.int .i64 0, .string ⟨#[]⟩, .string ⟨#[]⟩, .int .u64 0, .string ⟨#[]⟩, .string ⟨#[]⟩] 35)).alloc (by simp) (.cells #[.int .i64 0, .string ⟨#[]⟩, .string ⟨#[]⟩, .int .u64 0, .string ⟨#[]⟩, .string ⟨#[]⟩] 35)).alloc (by simp; omega) (.cells #[.int .i64 1, .int .i64 1, .int .i64 1, .int .i64 1, .int .i64 1, .int .i64 1, .int .i64 1, .int .i64 2, .int .i64 2, .int .i64 3, .int .i64 3, .int .i64 4, .int .i64 5, .int .i64 6, .int .i64 7, .int .i64 8] 54)))
  have Hbe := Lib.hid hbe
  have Hk := Lib.hid hk
  have hrI : (r : Int) < 16 := by omega
  clear h hbe hk 
  go_enter Tryd.func13, Tryd.ntmps13
  go_wp2_with (first | (go_at_call 9; (with_reducible refine (Hbe.out _ H0.out).mono ?_); rintro e w1 ⟨rfl, hi1, hfr1⟩; obtain ⟨hlt, hks, hs⟩ := USt.new _ hbl hi1 hfr1; have kc := kinds_at r hr hks; rw [Hk.out] at kc; have HS := Lib.hid hs; have hz := HS.out.o; have hv := HS.out.z; have z0 := hz.c0; have fz0 := hz.f 0; have z1 := hz.c1; have fz1 := hz.f 1; have z2 := hz.c2; have fz2 := hz.f 2; have z3 := hz.c3; have fz3 := hz.f 3; have z4 := hz.c4; have fz4 := hz.f 4; have z5 := hz.c5; have fz5 := hz.f 5; have cz0 := hv.c0; have y0 := hv.f 0; have cz1 := hv.c1; have y1 := hv.f 1; have cz2 := hv.c2; have y2 := hv.f 2; have cz3 := hv.c3; have y3 := hv.f 3; have cz4 := hv.c4; have y4 := hv.f 4; have cz5 := hv.c5; have y5 := hv.f 5; have HS := Lib.hid (HS.out.kind (by omega) (by omega) (by omega) 8); have hz := HS.out.o; have hv := HS.out.z; have z0 := hz.c0; have fz0 := hz.f 0; have z1 := hz.c1; have fz1 := hz.f 1; have z2 := hz.c2; have fz2 := hz.f 2; have z3 := hz.c3; have fz3 := hz.f 3; have z4 := hz.c4; have fz4 := hz.f 4; have z5 := hz.c5; have fz5 := hz.f 5; have cz0 := hv.c0; have y0 := hv.f 0; have cz1 := hv.c1; have y1 := hv.f 1; have cz2 := hv.c2; have y2 := hv.f 2; have cz3 := hv.c3; have y3 := hv.f 3; have cz4 := hv.c4; have y4 := hv.f 4; have cz5 := hv.c5; have y5 := hv.f 5; clear hs hi1 hfr1 hks))
  (try simp only [Exit.inBlock, Exit.then])
  obtain ⟨hm9, hf9⟩ := HS.out.put (by omega) (by omega) ⟨8, ⟨#[]⟩, ⟨#[]⟩, 0, ⟨#[]⟩, ⟨#[]⟩⟩
  exact bodyPost_ret (v := Ord.v ⟨8, ⟨#[]⟩, ⟨#[]⟩, 0, ⟨#[]⟩, ⟨#[]⟩⟩) (by simp [results, Tryd.results13, go_sem, Ord.v, cz0, cz1, cz2, cz3, cz4, cz5]) rfl ⟨rfl, hm9, hf9⟩

set_option maxHeartbeats 1000000 in
set_option maxRecDepth 100000 in
theorem uOrder_1 (b r : Nat) (x0 x1 x2 x3 x4 : Int) (k1 : ByteArray) (n1 : Int) (c1 : Int) (hn0 : 0 ≤ n1) (hn1 : n1 < 17) (hd0 : 0 ≤ c1) (hd1 : c1 < 26) (w : World) (h : UAt w b x0) (hr : r < 16) (hk : kindS r = 1)
    (hbe : ∀ W, UAt W b x0 → Calls Tryd.prog 9 #[.pointer (some ⟨b, 0, none⟩), .int .i64 16] W fun e w' => e = .returned (.int .i64 r) ∧ UAt w' b x1 ∧ Fr (fun k => k = b) W w') (hc0 : ∀ W, UAt W b x1 → Calls Tryd.prog 23 #[.pointer (some ⟨b, 0, none⟩)] W fun e w' => e = .returned (.string k1) ∧ UAt w' b x2 ∧ Fr (fun k => k = b) W w') (hc1 : ∀ W, UAt W b x2 → Calls Tryd.prog 9 #[.pointer (some ⟨b, 0, none⟩), .int .i64 17] W fun e w' => e = .returned (.int .i64 n1) ∧ UAt w' b x3 ∧ Fr (fun k => k = b) W w') (hc2 : ∀ W, UAt W b x3 → Calls Tryd.prog 9 #[.pointer (some ⟨b, 0, none⟩), .int .i64 26] W fun e w' => e = .returned (.int .i64 c1) ∧ UAt w' b x4 ∧ Fr (fun k => k = b) W w') :
    Calls Tryd.prog 13 #[.pointer (some ⟨b, 0, none⟩)] w fun e w' => e = .returned (Ord.v ⟨1, k1, (valB n1 c1), 0, ⟨#[]⟩, ⟨#[]⟩⟩) ∧ UAt w' b x4 ∧ Fr (fun k => k = b) w w' := by
  have hbl := h.lt
  have H0 := Lib.hid (h.below (((Below.alloc (Below.refl w.heap.size w) (Nat.le_refl _) (.cells #[.int .i64 0, .string ⟨#[]⟩, .string ⟨#[]⟩, .int .u64 0, .string ⟨#[]⟩, .string ⟨#[]⟩] 35)).alloc (by simp) (.cells #[.int .i64 0, .string ⟨#[]⟩, .string ⟨#[]⟩, .int .u64 0, .string ⟨#[]⟩, .string ⟨#[]⟩] 35)).alloc (by simp; omega) (.cells #[.int .i64 1, .int .i64 1, .int .i64 1, .int .i64 1, .int .i64 1, .int .i64 1, .int .i64 1, .int .i64 2, .int .i64 2, .int .i64 3, .int .i64 3, .int .i64 4, .int .i64 5, .int .i64 6, .int .i64 7, .int .i64 8] 54)))
  have Hbe := Lib.hid hbe
  have Hk := Lib.hid hk
  have HC0 := Lib.hid hc0
  have HC1 := Lib.hid hc1
  have HC2 := Lib.hid hc2
  have hrI : (r : Int) < 16 := by omega
  clear h hbe hk hc0 hc1 hc2
  obtain ⟨m, rfl⟩ := Int.eq_ofNat_of_zero_le hn0
  obtain ⟨cn, rfl⟩ := Int.eq_ofNat_of_zero_le hd0
  have hmI : m < 17 := by omega
  have hcI : cn < 26 := by omega
  have hsl := alpha_at cn hcI
  have Hsl := Lib.hid hsl
  clear hsl
  go_enter Tryd.func13, Tryd.ntmps13
  go_wp2_with (first | (have _q := Q2; go_at_call 9; (with_reducible refine (HC2.out _ HS.out.m).mono ?_); rintro e w4 ⟨rfl, hi2, hfr2⟩; have Q3 := True.intro; have HS := Lib.hid (HS.out.call (by omega) (by omega) hi2 hfr2); have hz := HS.out.o; have hv := HS.out.z; have z0 := hz.c0; have fz0 := hz.f 0; have z1 := hz.c1; have fz1 := hz.f 1; have z2 := hz.c2; have fz2 := hz.f 2; have z3 := hz.c3; have fz3 := hz.f 3; have z4 := hz.c4; have fz4 := hz.f 4; have z5 := hz.c5; have fz5 := hz.f 5; have cz0 := hv.c0; have y0 := hv.f 0; have cz1 := hv.c1; have y1 := hv.f 1; have cz2 := hv.c2; have y2 := hv.f 2; have cz3 := hv.c3; have y3 := hv.f 3; have cz4 := hv.c4; have y4 := hv.f 4; have cz5 := hv.c5; have y5 := hv.f 5; clear hi2 hfr2) | (have _q := Q1; go_at_call 9; (with_reducible refine (HC1.out _ HS.out.m).mono ?_); rintro e w3 ⟨rfl, hi2, hfr2⟩; have Q2 := True.intro; have HS := Lib.hid (HS.out.call (by omega) (by omega) hi2 hfr2); have hz := HS.out.o; have hv := HS.out.z; have z0 := hz.c0; have fz0 := hz.f 0; have z1 := hz.c1; have fz1 := hz.f 1; have z2 := hz.c2; have fz2 := hz.f 2; have z3 := hz.c3; have fz3 := hz.f 3; have z4 := hz.c4; have fz4 := hz.f 4; have z5 := hz.c5; have fz5 := hz.f 5; have cz0 := hv.c0; have y0 := hv.f 0; have cz1 := hv.c1; have y1 := hv.f 1; have cz2 := hv.c2; have y2 := hv.f 2; have cz3 := hv.c3; have y3 := hv.f 3; have cz4 := hv.c4; have y4 := hv.f 4; have cz5 := hv.c5; have y5 := hv.f 5; clear hi2 hfr2) | (go_at_call 23; (with_reducible refine (HC0.out _ HS.out.m).mono ?_); rintro e w2 ⟨rfl, hi2, hfr2⟩; have Q1 := True.intro; have HS := Lib.hid (HS.out.call (by omega) (by omega) hi2 hfr2); have hz := HS.out.o; have hv := HS.out.z; have z0 := hz.c0; have fz0 := hz.f 0; have z1 := hz.c1; have fz1 := hz.f 1; have z2 := hz.c2; have fz2 := hz.f 2; have z3 := hz.c3; have fz3 := hz.f 3; have z4 := hz.c4; have fz4 := hz.f 4; have z5 := hz.c5; have fz5 := hz.f 5; have cz0 := hv.c0; have y0 := hv.f 0; have cz1 := hv.c1; have y1 := hv.f 1; have cz2 := hv.c2; have y2 := hv.f 2; have cz3 := hv.c3; have y3 := hv.f 3; have cz4 := hv.c4; have y4 := hv.f 4; have cz5 := hv.c5; have y5 := hv.f 5; clear hi2 hfr2; have HS := Lib.hid (HS.out.key (by omega) (by omega) (by omega) k1); have hz := HS.out.o; have hv := HS.out.z; have z0 := hz.c0; have fz0 := hz.f 0; have z1 := hz.c1; have fz1 := hz.f 1; have z2 := hz.c2; have fz2 := hz.f 2; have z3 := hz.c3; have fz3 := hz.f 3; have z4 := hz.c4; have fz4 := hz.f 4; have z5 := hz.c5; have fz5 := hz.f 5; have cz0 := hv.c0; have y0 := hv.f 0; have cz1 := hv.c1; have y1 := hv.f 1; have cz2 := hv.c2; have y2 := hv.f 2; have cz3 := hv.c3; have y3 := hv.f 3; have cz4 := hv.c4; have y4 := hv.f 4; have cz5 := hv.c5; have y5 := hv.f 5) | (go_at_call 9; (with_reducible refine (Hbe.out _ H0.out).mono ?_); rintro e w1 ⟨rfl, hi1, hfr1⟩; obtain ⟨hlt, hks, hs⟩ := USt.new _ hbl hi1 hfr1; have kc := kinds_at r hr hks; rw [Hk.out] at kc; have HS := Lib.hid hs; have hz := HS.out.o; have hv := HS.out.z; have z0 := hz.c0; have fz0 := hz.f 0; have z1 := hz.c1; have fz1 := hz.f 1; have z2 := hz.c2; have fz2 := hz.f 2; have z3 := hz.c3; have fz3 := hz.f 3; have z4 := hz.c4; have fz4 := hz.f 4; have z5 := hz.c5; have fz5 := hz.f 5; have cz0 := hv.c0; have y0 := hv.f 0; have cz1 := hv.c1; have y1 := hv.f 1; have cz2 := hv.c2; have y2 := hv.f 2; have cz3 := hv.c3; have y3 := hv.f 3; have cz4 := hv.c4; have y4 := hv.f 4; have cz5 := hv.c5; have y5 := hv.f 5; have HS := Lib.hid (HS.out.kind (by omega) (by omega) (by omega) 1); have hz := HS.out.o; have hv := HS.out.z; have z0 := hz.c0; have fz0 := hz.f 0; have z1 := hz.c1; have fz1 := hz.f 1; have z2 := hz.c2; have fz2 := hz.f 2; have z3 := hz.c3; have fz3 := hz.f 3; have z4 := hz.c4; have fz4 := hz.f 4; have z5 := hz.c5; have fz5 := hz.f 5; have cz0 := hv.c0; have y0 := hv.f 0; have cz1 := hv.c1; have y1 := hv.f 1; have cz2 := hv.c2; have y2 := hv.f 2; have cz3 := hv.c3; have y3 := hv.f 3; have cz4 := hv.c4; have y4 := hv.f 4; have cz5 := hv.c5; have y5 := hv.f 5; clear hs hi1 hfr1 hks))
  have hlt0 := hlt
  have HS9 := HS
  go_loopw [7] (fun i wr => ∃ j : Nat, j ≤ m ∧ i = .int .i64 j ∧ USt w wr b (w.heap.size + 1) w.heap.size ⟨1, k1, ⟨(Lib.repeatL [sig cn] j).toArray⟩, 0, ⟨#[]⟩, ⟨#[]⟩⟩ x4) (fun i _ => 17 - (intOf i).toNat)
  case atStart => exact ⟨0, Nat.zero_le _, rfl, HS9.out⟩
  case round =>
    obtain ⟨j, hj, rfl, hs⟩ := hrel
    have HS := Lib.hid hs
    have hz := hs.o
    have hv := hs.z
    have z0 := hz.c0; have fz0 := hz.f 0; have z1 := hz.c1; have fz1 := hz.f 1; have z2 := hz.c2; have fz2 := hz.f 2; have z3 := hz.c3; have fz3 := hz.f 3; have z4 := hz.c4; have fz4 := hz.f 4; have z5 := hz.c5; have fz5 := hz.f 5; have cz0 := hv.c0; have y0 := hv.f 0; have cz1 := hv.c1; have y1 := hv.f 1; have cz2 := hv.c2; have y2 := hv.f 2; have cz3 := hv.c3; have y3 := hv.f 3; have cz4 := hv.c4; have y4 := hv.f 4; have cz5 := hv.c5; have y5 := hv.f 5
    have hlen : (Lib.repeatL [sig cn] j).length = j := by rw [Lib.repeatL_length]; simp
    clear hs
    by_cases hjm : j < m
    · have hjI : (j : Int) < (m : Int) := by omega
      go_wp2
      go_region
      all_goals go_wp2
      have hx : (⟨(Lib.repeatL [sig cn] j).toArray⟩ : ByteArray) ++ (⟨#[97, 98, 99, 100, 101, 102, 103, 104, 105, 106, 107, 108, 109, 110, 111, 112, 113, 114, 115, 116, 117, 118, 119, 120, 121, 122]⟩ : ByteArray).extract cn (cn + 1) = ⟨(Lib.repeatL [sig cn] (j + 1)).toArray⟩ := by
        rw [Hsl.out, ← rep_snoc]
        apply ByteArray.ext
        simp [ByteArray.data_append]
      refine ⟨⟨j + 1, by omega, by simp, ?_⟩, ?_⟩
      · rw [← hx]
        exact (HS.out.val (by omega) (by omega) (by omega) _).drew
      · simp [intOf]
        omega
    · have hjI : (m : Int) ≤ (j : Int) := by omega
      obtain rfl : j = m := by omega
      go_wp2
      (try simp only [Exit.inBlock, Exit.then])
      obtain ⟨hm9, hf9⟩ := HS.out.put (by omega) (by omega) ⟨1, k1, ⟨(Lib.repeatL [sig cn] j).toArray⟩, 0, ⟨#[]⟩, ⟨#[]⟩⟩
      exact bodyPost_ret (v := Ord.v ⟨1, k1, ⟨(Lib.repeatL [sig cn] j).toArray⟩, 0, ⟨#[]⟩, ⟨#[]⟩⟩) (by simp [results, Tryd.results13, go_sem, Ord.v, cz0, cz1, cz2, cz3, cz4, cz5]) rfl ⟨rfl, hm9, hf9⟩

theorem uOrder_any (b : Nat) (x : Int) (w : World) (h : UAt w b x) : Calls Tryd.prog 13 #[.pointer (some ⟨b, 0, none⟩)] w fun e w' => e = .returned (orderS x).1.v ∧ UAt w' b (orderS x).2 ∧ Fr (fun k => k = b) w w' := by
  have hbe := fun W h => uBelow_yes b x 16 W h (by decide) (by decide)
  have h0 := Int.emod_nonneg (nZ (nS x)) (show (16 : Int) ≠ 0 by decide)
  have h1 := Int.emod_lt_of_pos (nZ (nS x)) (show (0 : Int) < 16 by decide)
  have hk1 := fun W h => uKey_any b (nS x) W h
  have hk2 := fun W h => uKey_any b (nS (nS x)) W h
  have hv1 := fun W h => uBelow_yes b (nS (nS x)) 17 W h (by decide) (by decide)
  have hv2 := fun W h => uBelow_yes b (nS (nS (nS x))) 26 W h (by decide) (by decide)
  have n0 := Int.emod_nonneg (nZ (nS (nS (nS x)))) (show (17 : Int) ≠ 0 by decide)
  have n1 := Int.emod_lt_of_pos (nZ (nS (nS (nS x)))) (show (0 : Int) < 17 by decide)
  have d0 := Int.emod_nonneg (nZ (nS (nS (nS (nS x))))) (show (26 : Int) ≠ 0 by decide)
  have d1 := Int.emod_lt_of_pos (nZ (nS (nS (nS (nS x))))) (show (0 : Int) < 26 by decide)
  have hn := fun W h => uNext_any b (nS (nS x)) W h
  have hc := kindS_cases _ h0 h1
  unfold orderS
  generalize nZ (nS x) % 16 = r at hbe hc h0 h1 ⊢
  obtain ⟨r, rfl⟩ := Int.eq_ofNat_of_zero_le h0
  have hr : r < 16 := by omega
  rcases hc with hc | hc | hc | hc | hc | hc | hc | hc
  all_goals simp only [hc]
  · exact uOrder_1 b r x _ _ _ _ _ _ _ n0 n1 d0 d1 w h hr hc hbe hk1 hv1 hv2
  · exact uOrder_2 b r x _ _ _ w h hr hc hbe hk1
  · exact uOrder_3 b r x _ _ _ _ _ w h hr hc hbe hk1 hn
  · exact uOrder_4 b r x _ _ _ w h hr hc hbe hk1
  · exact uOrder_5 b r x _ _ _ _ _ w h hr hc hbe hk1 hk2
  · exact uOrder_6 b r x _ w h hr hc hbe
  · exact uOrder_7 b r x _ w h hr hc hbe
  · exact uOrder_8 b r x _ w h hr hc hbe

end Go.Proofs.YtdfgdnaejnngoaaDoor
