import Derived.Test.YtdfgdnaejnngoaaDoorMin5
namespace Go.Proofs.YtdfgdnaejnngoaaDoor
open Go.RowKit

def OSt (w W : World) (b c c0 : Nat) (o : Ord) (x : Int) : Prop := DAt W c o ∧ MAt W b x ∧ DAt W c0 (ord0 0) ∧ Fr (fun k => k = b) w W
section
variable {w W W' : World} {b c c0 : Nat} {ro : Ord} {rx rx' : Int}
theorem OSt.o (h : OSt w W b c c0 ro rx) : DAt W c ro := h.1
theorem OSt.m (h : OSt w W b c c0 ro rx) : MAt W b rx := h.2.1
theorem OSt.z (h : OSt w W b c c0 ro rx) : DAt W c0 (ord0 0) := h.2.2.1
theorem OSt.fr (h : OSt w W b c c0 ro rx) : Fr (fun k => k = b) w W := h.2.2.2
theorem OSt.new {w1 : World} (k : Int) (hb : b < w.heap.size) (hi : MAt w1 b rx) (hf : Fr (fun k => k = b) (w.alloc (.cells #[.int .i64 0, .string ⟨#[]⟩, .string ⟨#[]⟩, .int .u64 0, .string ⟨#[]⟩, .string ⟨#[]⟩] 37)) w1) :
    w.heap.size < w1.heap.size ∧ DAt w1 w.heap.size (ord0 0) ∧ OSt w (w1.alloc (.cells #[.int .i64 k, .string ⟨#[]⟩, .string ⟨#[]⟩, .int .u64 0, .string ⟨#[]⟩, .string ⟨#[]⟩] 37)) b w1.heap.size w.heap.size ⟨k, ⟨#[]⟩, ⟨#[]⟩, 0, ⟨#[]⟩, ⟨#[]⟩⟩ rx := by
  have hz : w.heap.size < w1.heap.size := by have := hf.size; simp at this; omega
  have h0 : DAt w1 w.heap.size (ord0 0) := DAt.fr (w := w.alloc (.cells #[.int .i64 0, .string ⟨#[]⟩, .string ⟨#[]⟩, .int .u64 0, .string ⟨#[]⟩, .string ⟨#[]⟩] 37)) (heap_alloc_new w _) hf (by omega)
  exact ⟨hz, h0, heap_alloc_new w1 _, hi.fr ((Fr.refl (fun _ => False) w1).alloc _) id, h0.fr ((Fr.refl (fun _ => False) w1).alloc _) id, (((Fr.refl (fun k => k = b) w).alloc _).trans hf (fun _ _ h => h)).alloc _⟩
theorem OSt.call (h : OSt w W b c c0 ro rx) (hbc : c ≠ b) (hb0 : c0 ≠ b) (hi : MAt W' b rx') (hf : Fr (fun k => k = b) W W') : OSt w W' b c c0 ro rx' :=
  ⟨h.1.fr hf hbc, hi, h.2.2.1.fr hf hb0, h.2.2.2.trans hf (fun _ _ h => h)⟩
theorem OSt.key (h : OSt w W b c c0 ro rx) (hbc : b ≠ c) (hb0 : c0 ≠ c) (hc : w.heap.size ≤ c) (t : ByteArray) : OSt w (W.setCell ⟨c, 1, none⟩ (.string t)) b c c0 { ro with key := t } rx :=
  have hf := (Fr.refl (fun k => k = c) W).setCell (p := ⟨c, 1, none⟩) (fun _ => rfl) (.string t)
  ⟨h.1.set_key t, h.2.1.fr hf hbc, h.2.2.1.fr hf hb0, h.2.2.2.trans hf (fun i hi e => by omega)⟩
theorem OSt.val (h : OSt w W b c c0 ro rx) (hbc : b ≠ c) (hb0 : c0 ≠ c) (hc : w.heap.size ≤ c) (t : ByteArray) : OSt w (W.setCell ⟨c, 2, none⟩ (.string t)) b c c0 { ro with val := t } rx :=
  have hf := (Fr.refl (fun k => k = c) W).setCell (p := ⟨c, 2, none⟩) (fun _ => rfl) (.string t)
  ⟨h.1.set_val t, h.2.1.fr hf hbc, h.2.2.1.fr hf hb0, h.2.2.2.trans hf (fun i hi e => by omega)⟩
theorem OSt.lo (h : OSt w W b c c0 ro rx) (hbc : b ≠ c) (hb0 : c0 ≠ c) (hc : w.heap.size ≤ c) (t : ByteArray) : OSt w (W.setCell ⟨c, 4, none⟩ (.string t)) b c c0 { ro with lo := t } rx :=
  have hf := (Fr.refl (fun k => k = c) W).setCell (p := ⟨c, 4, none⟩) (fun _ => rfl) (.string t)
  ⟨h.1.set_lo t, h.2.1.fr hf hbc, h.2.2.1.fr hf hb0, h.2.2.2.trans hf (fun i hi e => by omega)⟩
theorem OSt.hi (h : OSt w W b c c0 ro rx) (hbc : b ≠ c) (hb0 : c0 ≠ c) (hc : w.heap.size ≤ c) (t : ByteArray) : OSt w (W.setCell ⟨c, 5, none⟩ (.string t)) b c c0 { ro with hi := t } rx :=
  have hf := (Fr.refl (fun k => k = c) W).setCell (p := ⟨c, 5, none⟩) (fun _ => rfl) (.string t)
  ⟨h.1.set_hi t, h.2.1.fr hf hbc, h.2.2.1.fr hf hb0, h.2.2.2.trans hf (fun i hi e => by omega)⟩
theorem OSt.n (h : OSt w W b c c0 ro rx) (hbc : b ≠ c) (hb0 : c0 ≠ c) (hc : w.heap.size ≤ c) (t : Int) : OSt w (W.setCell ⟨c, 3, none⟩ (.int .u64 t)) b c c0 { ro with n := t } rx :=
  have hf := (Fr.refl (fun k => k = c) W).setCell (p := ⟨c, 3, none⟩) (fun _ => rfl) (.int .u64 t)
  ⟨h.1.set_n t, h.2.1.fr hf hbc, h.2.2.1.fr hf hb0, h.2.2.2.trans hf (fun i hi e => by omega)⟩
theorem OSt.put (h : OSt w W b c c0 ro rx) (hb0 : b ≠ c0) (hc : w.heap.size ≤ c0) (R : Ord) : MAt (put6 W c0 R) b rx ∧ Fr (fun k => k = b) w (put6 W c0 R) :=
  ⟨h.2.1.fr (put6_fr W c0 R) hb0, h.2.2.2.trans (put6_fr W c0 R) (fun i hi e => by omega)⟩
end

set_option maxHeartbeats 1000000 in
set_option maxRecDepth 100000 in
theorem mOrder_1 (b B : Nat) (r : Int) (x0 x1 x2 x3 : Int) (k1 : ByteArray) (v1 : ByteArray) (w : World) (h : MAt w b x0) (hB : B ≤ b) (ht : Tab B w)
    (hbe : ∀ W, MAt W b x0 → Calls Tryd.prog 10 #[.pointer (some ⟨b, 0, none⟩), .int .i64 16] W fun e w' => e = .returned (.int .i64 r) ∧ MAt w' b x1 ∧ Fr (fun k => k = b) W w')
    (hki : ∀ W, Calls Tryd.prog 20 #[.int .i64 r] W fun e w' => e = .returned (.int .i64 1) ∧ W = w') (hc0 : ∀ W, MAt W b x1 → Tab B W → Calls Tryd.prog 21 #[.pointer (some ⟨b, 0, none⟩)] W fun e w' => e = .returned (.string k1) ∧ MAt w' b x2 ∧ Fr (fun k => k = b) W w') (hc1 : ∀ W, MAt W b x2 → Calls Tryd.prog 22 #[.pointer (some ⟨b, 0, none⟩)] W fun e w' => e = .returned (.string v1) ∧ MAt w' b x3 ∧ Fr (fun k => k = b) W w') :
    Calls Tryd.prog 12 #[.pointer (some ⟨b, 0, none⟩)] w fun e w' => e = .returned (Ord.v ⟨1, k1, v1, 0, ⟨#[]⟩, ⟨#[]⟩⟩) ∧ MAt w' b x3 ∧ Fr (fun k => k = b) w w' := by
  have hbl := h.lt
  have H0 := Lib.hid (h.below (Below.alloc (Below.refl w.heap.size w) (Nat.le_refl _) (.cells #[.int .i64 0, .string ⟨#[]⟩, .string ⟨#[]⟩, .int .u64 0, .string ⟨#[]⟩, .string ⟨#[]⟩] 37)))
  have Hbe := Lib.hid hbe
  have Hki := Lib.hid hki
  have Ht := Lib.hid ht
  have HC0 := Lib.hid hc0
  have HC1 := Lib.hid hc1
  clear h hbe hki ht hc0 hc1
  go_enter Tryd.func12, Tryd.ntmps12
  go_wp2_with (first | (have _q := Q1; go_at_call 22; (with_reducible refine (HC1.out _ HS.out.m).mono ?_); rintro e w3 ⟨rfl, hi2, hfr2⟩; have Q2 := True.intro; have HS := Lib.hid (HS.out.call (by omega) (by omega) hi2 hfr2); have hz := HS.out.o; have hv := HS.out.z; have z0 := hz.c0; have fz0 := hz.f 0; have z1 := hz.c1; have fz1 := hz.f 1; have z2 := hz.c2; have fz2 := hz.f 2; have z3 := hz.c3; have fz3 := hz.f 3; have z4 := hz.c4; have fz4 := hz.f 4; have z5 := hz.c5; have fz5 := hz.f 5; have cz0 := hv.c0; have y0 := hv.f 0; have cz1 := hv.c1; have y1 := hv.f 1; have cz2 := hv.c2; have y2 := hv.f 2; have cz3 := hv.c3; have y3 := hv.f 3; have cz4 := hv.c4; have y4 := hv.f 4; have cz5 := hv.c5; have y5 := hv.f 5; clear hi2 hfr2; have HS0 := HS; have HS := Lib.hid (HS.out.val (by omega) (by omega) (by omega) v1); have hz := HS.out.o; have hv := HS.out.z; have z0 := hz.c0; have fz0 := hz.f 0; have z1 := hz.c1; have fz1 := hz.f 1; have z2 := hz.c2; have fz2 := hz.f 2; have z3 := hz.c3; have fz3 := hz.f 3; have z4 := hz.c4; have fz4 := hz.f 4; have z5 := hz.c5; have fz5 := hz.f 5; have cz0 := hv.c0; have y0 := hv.f 0; have cz1 := hv.c1; have y1 := hv.f 1; have cz2 := hv.c2; have y2 := hv.f 2; have cz3 := hv.c3; have y3 := hv.f 3; have cz4 := hv.c4; have y4 := hv.f 4; have cz5 := hv.c5; have y5 := hv.f 5) | (go_at_call 21; (with_reducible refine (HC0.out _ HS.out.m (Ht.out.fr HS.out.fr (by omega) (fun i e => by omega))).mono ?_); rintro e w2 ⟨rfl, hi2, hfr2⟩; have Q1 := True.intro; have HS := Lib.hid (HS.out.call (by omega) (by omega) hi2 hfr2); have hz := HS.out.o; have hv := HS.out.z; have z0 := hz.c0; have fz0 := hz.f 0; have z1 := hz.c1; have fz1 := hz.f 1; have z2 := hz.c2; have fz2 := hz.f 2; have z3 := hz.c3; have fz3 := hz.f 3; have z4 := hz.c4; have fz4 := hz.f 4; have z5 := hz.c5; have fz5 := hz.f 5; have cz0 := hv.c0; have y0 := hv.f 0; have cz1 := hv.c1; have y1 := hv.f 1; have cz2 := hv.c2; have y2 := hv.f 2; have cz3 := hv.c3; have y3 := hv.f 3; have cz4 := hv.c4; have y4 := hv.f 4; have cz5 := hv.c5; have y5 := hv.f 5; clear hi2 hfr2; have HS0 := HS; have HS := Lib.hid (HS.out.key (by omega) (by omega) (by omega) k1); have hz := HS.out.o; have hv := HS.out.z; have z0 := hz.c0; have fz0 := hz.f 0; have z1 := hz.c1; have fz1 := hz.f 1; have z2 := hz.c2; have fz2 := hz.f 2; have z3 := hz.c3; have fz3 := hz.f 3; have z4 := hz.c4; have fz4 := hz.f 4; have z5 := hz.c5; have fz5 := hz.f 5; have cz0 := hv.c0; have y0 := hv.f 0; have cz1 := hv.c1; have y1 := hv.f 1; have cz2 := hv.c2; have y2 := hv.f 2; have cz3 := hv.c3; have y3 := hv.f 3; have cz4 := hv.c4; have y4 := hv.f 4; have cz5 := hv.c5; have y5 := hv.f 5) | (go_at_call 10; (with_reducible refine (Hbe.out _ H0.out).mono ?_); rintro e w1 ⟨rfl, hi1, hfr1⟩; obtain ⟨hlt, hv, hs⟩ := OSt.new 1 hbl hi1 hfr1; have hv0 := hv; have cz0 := hv.c0; have y0 := hv.f 0; have cz1 := hv.c1; have y1 := hv.f 1; have cz2 := hv.c2; have y2 := hv.f 2; have cz3 := hv.c3; have y3 := hv.f 3; have cz4 := hv.c4; have y4 := hv.f 4; have cz5 := hv.c5; have y5 := hv.f 5; have HS := Lib.hid hs; have hz := HS.out.o; have hv := HS.out.z; have z0 := hz.c0; have fz0 := hz.f 0; have z1 := hz.c1; have fz1 := hz.f 1; have z2 := hz.c2; have fz2 := hz.f 2; have z3 := hz.c3; have fz3 := hz.f 3; have z4 := hz.c4; have fz4 := hz.f 4; have z5 := hz.c5; have fz5 := hz.f 5; have cz0 := hv.c0; have y0 := hv.f 0; have cz1 := hv.c1; have y1 := hv.f 1; have cz2 := hv.c2; have y2 := hv.f 2; have cz3 := hv.c3; have y3 := hv.f 3; have cz4 := hv.c4; have y4 := hv.f 4; have cz5 := hv.c5; have y5 := hv.f 5; clear hs hi1 hfr1) | (go_at_call 20; (with_reducible refine (Hki.out _).mono ?_); rintro e wk ⟨rfl, rfl⟩))
  (try simp only [Exit.inBlock, Exit.then])
  obtain ⟨hm9, hf9⟩ := HS.out.put (by omega) (by omega) ⟨1, k1, v1, 0, ⟨#[]⟩, ⟨#[]⟩⟩
  exact bodyPost_ret (v := Ord.v ⟨1, k1, v1, 0, ⟨#[]⟩, ⟨#[]⟩⟩) (by simp [results, Tryd.results12, go_sem, Ord.v, cz0, cz1, cz2, cz3, cz4, cz5]) rfl ⟨rfl, hm9, hf9⟩

set_option maxHeartbeats 1000000 in
set_option maxRecDepth 100000 in
theorem mOrder_2 (b B : Nat) (r : Int) (x0 x1 x2 : Int) (k1 : ByteArray) (w : World) (h : MAt w b x0) (hB : B ≤ b) (ht : Tab B w)
    (hbe : ∀ W, MAt W b x0 → Calls Tryd.prog 10 #[.pointer (some ⟨b, 0, none⟩), .int .i64 16] W fun e w' => e = .returned (.int .i64 r) ∧ MAt w' b x1 ∧ Fr (fun k => k = b) W w')
    (hki : ∀ W, Calls Tryd.prog 20 #[.int .i64 r] W fun e w' => e = .returned (.int .i64 2) ∧ W = w') (hc0 : ∀ W, MAt W b x1 → Tab B W → Calls Tryd.prog 21 #[.pointer (some ⟨b, 0, none⟩)] W fun e w' => e = .returned (.string k1) ∧ MAt w' b x2 ∧ Fr (fun k => k = b) W w') :
    Calls Tryd.prog 12 #[.pointer (some ⟨b, 0, none⟩)] w fun e w' => e = .returned (Ord.v ⟨2, k1, ⟨#[]⟩, 0, ⟨#[]⟩, ⟨#[]⟩⟩) ∧ MAt w' b x2 ∧ Fr (fun k => k = b) w w' := by
  have hbl := h.lt
  have H0 := Lib.hid (h.below (Below.alloc (Below.refl w.heap.size w) (Nat.le_refl _) (.cells #[.int .i64 0, .string ⟨#[]⟩, .string ⟨#[]⟩, .int .u64 0, .string ⟨#[]⟩, .string ⟨#[]⟩] 37)))
  have Hbe := Lib.hid hbe
  have Hki := Lib.hid hki
  have Ht := Lib.hid ht
  have HC0 := Lib.hid hc0
  clear h hbe hki ht hc0
  go_enter Tryd.func12, Tryd.ntmps12
  go_wp2_with (first | (go_at_call 21; (with_reducible refine (HC0.out _ HS.out.m (Ht.out.fr HS.out.fr (by omega) (fun i e => by omega))).mono ?_); rintro e w2 ⟨rfl, hi2, hfr2⟩; have Q1 := True.intro; have HS := Lib.hid (HS.out.call (by omega) (by omega) hi2 hfr2); have hz := HS.out.o; have hv := HS.out.z; have z0 := hz.c0; have fz0 := hz.f 0; have z1 := hz.c1; have fz1 := hz.f 1; have z2 := hz.c2; have fz2 := hz.f 2; have z3 := hz.c3; have fz3 := hz.f 3; have z4 := hz.c4; have fz4 := hz.f 4; have z5 := hz.c5; have fz5 := hz.f 5; have cz0 := hv.c0; have y0 := hv.f 0; have cz1 := hv.c1; have y1 := hv.f 1; have cz2 := hv.c2; have y2 := hv.f 2; have cz3 := hv.c3; have y3 := hv.f 3; have cz4 := hv.c4; have y4 := hv.f 4; have cz5 := hv.c5; have y5 := hv.f 5; clear hi2 hfr2; have HS0 := HS; have HS := Lib.hid (HS.out.key (by omega) (by omega) (by omega) k1); have hz := HS.out.o; have hv := HS.out.z; have z0 := hz.c0; have fz0 := hz.f 0; have z1 := hz.c1; have fz1 := hz.f 1; have z2 := hz.c2; have fz2 := hz.f 2; have z3 := hz.c3; have fz3 := hz.f 3; have z4 := hz.c4; have fz4 := hz.f 4; have z5 := hz.c5; have fz5 := hz.f 5; have cz0 := hv.c0; have y0 := hv.f 0; have cz1 := hv.c1; have y1 := hv.f 1; have cz2 := hv.c2; have y2 := hv.f 2; have cz3 := hv.c3; have y3 := hv.f 3; have cz4 := hv.c4; have y4 := hv.f 4; have cz5 := hv.c5; have y5 := hv.f 5) | (go_at_call 10; (with_reducible refine (Hbe.out _ H0.out).mono ?_); rintro e w1 ⟨rfl, hi1, hfr1⟩; obtain ⟨hlt, hv, hs⟩ := OSt.new 2 hbl hi1 hfr1; have hv0 := hv; have cz0 := hv.c0; have y0 := hv.f 0; have cz1 := hv.c1; have y1 := hv.f 1; have cz2 := hv.c2; have y2 := hv.f 2; have cz3 := hv.c3; have y3 := hv.f 3; have cz4 := hv.c4; have y4 := hv.f 4; have cz5 := hv.c5; have y5 := hv.f 5; have HS := Lib.hid hs; have hz := HS.out.o; have hv := HS.out.z; have z0 := hz.c0; have fz0 := hz.f 0; have z1 := hz.c1; have fz1 := hz.f 1; have z2 := hz.c2; have fz2 := hz.f 2; have z3 := hz.c3; have fz3 := hz.f 3; have z4 := hz.c4; have fz4 := hz.f 4; have z5 := hz.c5; have fz5 := hz.f 5; have cz0 := hv.c0; have y0 := hv.f 0; have cz1 := hv.c1; have y1 := hv.f 1; have cz2 := hv.c2; have y2 := hv.f 2; have cz3 := hv.c3; have y3 := hv.f 3; have cz4 := hv.c4; have y4 := hv.f 4; have cz5 := hv.c5; have y5 := hv.f 5; clear hs hi1 hfr1) | (go_at_call 20; (with_reducible refine (Hki.out _).mono ?_); rintro e wk ⟨rfl, rfl⟩))
  (try simp only [Exit.inBlock, Exit.then])
  obtain ⟨hm9, hf9⟩ := HS.out.put (by omega) (by omega) ⟨2, k1, ⟨#[]⟩, 0, ⟨#[]⟩, ⟨#[]⟩⟩
  exact bodyPost_ret (v := Ord.v ⟨2, k1, ⟨#[]⟩, 0, ⟨#[]⟩, ⟨#[]⟩⟩) (by simp [results, Tryd.results12, go_sem, Ord.v, cz0, cz1, cz2, cz3, cz4, cz5]) rfl ⟨rfl, hm9, hf9⟩

set_option maxHeartbeats 1000000 in
set_option maxRecDepth 100000 in
theorem mOrder_4 (b B : Nat) (r : Int) (x0 x1 x2 : Int) (k1 : ByteArray) (w : World) (h : MAt w b x0) (hB : B ≤ b) (ht : Tab B w)
    (hbe : ∀ W, MAt W b x0 → Calls Tryd.prog 10 #[.pointer (some ⟨b, 0, none⟩), .int .i64 16] W fun e w' => e = .returned (.int .i64 r) ∧ MAt w' b x1 ∧ Fr (fun k => k = b) W w')
    (hki : ∀ W, Calls Tryd.prog 20 #[.int .i64 r] W fun e w' => e = .returned (.int .i64 4) ∧ W = w') (hc0 : ∀ W, MAt W b x1 → Tab B W → Calls Tryd.prog 21 #[.pointer (some ⟨b, 0, none⟩)] W fun e w' => e = .returned (.string k1) ∧ MAt w' b x2 ∧ Fr (fun k => k = b) W w') :
    Calls Tryd.prog 12 #[.pointer (some ⟨b, 0, none⟩)] w fun e w' => e = .returned (Ord.v ⟨4, k1, ⟨#[]⟩, 0, ⟨#[]⟩, ⟨#[]⟩⟩) ∧ MAt w' b x2 ∧ Fr (fun k => k = b) w w' := by
  have hbl := h.lt
  have H0 := Lib.hid (h.below (Below.alloc (Below.refl w.heap.size w) (Nat.le_refl _) (.cells #[.int .i64 0, .string ⟨#[]⟩, .string ⟨#[]⟩, .int .u64 0, .string ⟨#[]⟩, .string ⟨#[]⟩] 37)))
  have Hbe := Lib.hid hbe
  have Hki := Lib.hid hki
  have Ht := Lib.hid ht
  have HC0 := Lib.hid hc0
  clear h hbe hki ht hc0
  go_enter Tryd.func12, Tryd.ntmps12
  go_wp2_with (first | (go_at_call 21; (with_reducible refine (HC0.out _ HS.out.m (Ht.out.fr HS.out.fr (by omega) (fun i e => by omega))).mono ?_); rintro e w2 ⟨rfl, hi2, hfr2⟩; have Q1 := True.intro; have HS := Lib.hid (HS.out.call (by omega) (by omega) hi2 hfr2); have hz := HS.out.o; have hv := HS.out.z; have z0 := hz.c0; have fz0 := hz.f 0; have z1 := hz.c1; have fz1 := hz.f 1; have z2 := hz.c2; have fz2 := hz.f 2; have z3 := hz.c3; have fz3 := hz.f 3; have z4 := hz.c4; have fz4 := hz.f 4; have z5 := hz.c5; have fz5 := hz.f 5; have cz0 := hv.c0; have y0 := hv.f 0; have cz1 := hv.c1; have y1 := hv.f 1; have cz2 := hv.c2; have y2 := hv.f 2; have cz3 := hv.c3; have y3 := hv.f 3; have cz4 := hv.c4; have y4 := hv.f 4; have cz5 := hv.c5; have y5 := hv.f 5; clear hi2 hfr2; have HS0 := HS; have HS := Lib.hid (HS.out.key (by omega) (by omega) (by omega) k1); have hz := HS.out.o; have hv := HS.out.z; have z0 := hz.c0; have fz0 := hz.f 0; have z1 := hz.c1; have fz1 := hz.f 1; have z2 := hz.c2; have fz2 := hz.f 2; have z3 := hz.c3; have fz3 := hz.f 3; have z4 := hz.c4; have fz4 := hz.f 4; have z5 := hz.c5; have fz5 := hz.f 5; have cz0 := hv.c0; have y0 := hv.f 0; have cz1 := hv.c1; have y1 := hv.f 1; have cz2 := hv.c2; have y2 := hv.f 2; have cz3 := hv.c3; have y3 := hv.f 3; have cz4 := hv.c4; have y4 := hv.f 4; have cz5 := hv.c5; have y5 := hv.f 5) | (go_at_call 10; (with_reducible refine (Hbe.out _ H0.out).mono ?_); rintro e w1 ⟨rfl, hi1, hfr1⟩; obtain ⟨hlt, hv, hs⟩ := OSt.new 4 hbl hi1 hfr1; have hv0 := hv; have cz0 := hv.c0; have y0 := hv.f 0; have cz1 := hv.c1; have y1 := hv.f 1; have cz2 := hv.c2; have y2 := hv.f 2; have cz3 := hv.c3; have y3 := hv.f 3; have cz4 := hv.c4; have y4 := hv.f 4; have cz5 := hv.c5; have y5 := hv.f 5; have HS := Lib.hid hs; have hz := HS.out.o; have hv := HS.out.z; have z0 := hz.c0; have fz0 := hz.f 0; have z1 := hz.c1; have fz1 := hz.f 1; have z2 := hz.c2; have fz2 := hz.f 2; have z3 := hz.c3; have fz3 := hz.f 3; have z4 := hz.c4; have fz4 := hz.f 4; have z5 := hz.c5; have fz5 := hz.f 5; have cz0 := hv.c0; have y0 := hv.f 0; have cz1 := hv.c1; have y1 := hv.f 1; have cz2 := hv.c2; have y2 := hv.f 2; have cz3 := hv.c3; have y3 := hv.f 3; have cz4 := hv.c4; have y4 := hv.f 4; have cz5 := hv.c5; have y5 := hv.f 5; clear hs hi1 hfr1) | (go_at_call 20; (with_reducible refine (Hki.out _).mono ?_); rintro e wk ⟨rfl, rfl⟩))
  (try simp only [Exit.inBlock, Exit.then])
  obtain ⟨hm9, hf9⟩ := HS.out.put (by omega) (by omega) ⟨4, k1, ⟨#[]⟩, 0, ⟨#[]⟩, ⟨#[]⟩⟩
  exact bodyPost_ret (v := Ord.v ⟨4, k1, ⟨#[]⟩, 0, ⟨#[]⟩, ⟨#[]⟩⟩) (by simp [results, Tryd.results12, go_sem, Ord.v, cz0, cz1, cz2, cz3, cz4, cz5]) rfl ⟨rfl, hm9, hf9⟩

set_option maxHeartbeats 1000000 in
set_option maxRecDepth 100000 in
theorem mOrder_3 (b B : Nat) (r : Int) (x0 x1 x2 x3 : Int) (k1 : ByteArray) (n1 : Int) (w : World) (h : MAt w b x0) (hB : B ≤ b) (ht : Tab B w)
    (hbe : ∀ W, MAt W b x0 → Calls Tryd.prog 10 #[.pointer (some ⟨b, 0, none⟩), .int .i64 16] W fun e w' => e = .returned (.int .i64 r) ∧ MAt w' b x1 ∧ Fr (fun k => k = b) W w')
    (hki : ∀ W, Calls Tryd.prog 20 #[.int .i64 r] W fun e w' => e = .returned (.int .i64 3) ∧ W = w') (hc0 : ∀ W, MAt W b x1 → Tab B W → Calls Tryd.prog 21 #[.pointer (some ⟨b, 0, none⟩)] W fun e w' => e = .returned (.string k1) ∧ MAt w' b x2 ∧ Fr (fun k => k = b) W w') (hc1 : ∀ W, MAt W b x2 → Calls Tryd.prog 7 #[.pointer (some ⟨b, 0, none⟩)] W fun e w' => e = .returned (.int .u64 n1) ∧ MAt w' b x3 ∧ Fr (fun k => k = b) W w') :
    Calls Tryd.prog 12 #[.pointer (some ⟨b, 0, none⟩)] w fun e w' => e = .returned (Ord.v ⟨3, k1, ⟨#[]⟩, n1, ⟨#[]⟩, ⟨#[]⟩⟩) ∧ MAt w' b x3 ∧ Fr (fun k => k = b) w w' := by
  have hbl := h.lt
  have H0 := Lib.hid (h.below (Below.alloc (Below.refl w.heap.size w) (Nat.le_refl _) (.cells #[.int .i64 0, .string ⟨#[]⟩, .string ⟨#[]⟩, .int .u64 0, .string ⟨#[]⟩, .string ⟨#[]⟩] 37)))
  have Hbe := Lib.hid hbe
  have Hki := Lib.hid hki
  have Ht := Lib.hid ht
  have HC0 := Lib.hid hc0
  have HC1 := Lib.hid hc1
  clear h hbe hki ht hc0 hc1
  go_enter Tryd.func12, Tryd.ntmps12
  go_wp2_with (first | (have _q := Q1; go_at_call 7; (with_reducible refine (HC1.out _ HS.out.m).mono ?_); rintro e w3 ⟨rfl, hi2, hfr2⟩; have Q2 := True.intro; have HS := Lib.hid (HS.out.call (by omega) (by omega) hi2 hfr2); have hz := HS.out.o; have hv := HS.out.z; have z0 := hz.c0; have fz0 := hz.f 0; have z1 := hz.c1; have fz1 := hz.f 1; have z2 := hz.c2; have fz2 := hz.f 2; have z3 := hz.c3; have fz3 := hz.f 3; have z4 := hz.c4; have fz4 := hz.f 4; have z5 := hz.c5; have fz5 := hz.f 5; have cz0 := hv.c0; have y0 := hv.f 0; have cz1 := hv.c1; have y1 := hv.f 1; have cz2 := hv.c2; have y2 := hv.f 2; have cz3 := hv.c3; have y3 := hv.f 3; have cz4 := hv.c4; have y4 := hv.f 4; have cz5 := hv.c5; have y5 := hv.f 5; clear hi2 hfr2; have HS0 := HS; have HS := Lib.hid (HS.out.n (by omega) (by omega) (by omega) n1); have hz := HS.out.o; have hv := HS.out.z; have z0 := hz.c0; have fz0 := hz.f 0; have z1 := hz.c1; have fz1 := hz.f 1; have z2 := hz.c2; have fz2 := hz.f 2; have z3 := hz.c3; have fz3 := hz.f 3; have z4 := hz.c4; have fz4 := hz.f 4; have z5 := hz.c5; have fz5 := hz.f 5; have cz0 := hv.c0; have y0 := hv.f 0; have cz1 := hv.c1; have y1 := hv.f 1; have cz2 := hv.c2; have y2 := hv.f 2; have cz3 := hv.c3; have y3 := hv.f 3; have cz4 := hv.c4; have y4 := hv.f 4; have cz5 := hv.c5; have y5 := hv.f 5) | (go_at_call 21; (with_reducible refine (HC0.out _ HS.out.m (Ht.out.fr HS.out.fr (by omega) (fun i e => by omega))).mono ?_); rintro e w2 ⟨rfl, hi2, hfr2⟩; have Q1 := True.intro; have HS := Lib.hid (HS.out.call (by omega) (by omega) hi2 hfr2); have hz := HS.out.o; have hv := HS.out.z; have z0 := hz.c0; have fz0 := hz.f 0; have z1 := hz.c1; have fz1 := hz.f 1; have z2 := hz.c2; have fz2 := hz.f 2; have z3 := hz.c3; have fz3 := hz.f 3; have z4 := hz.c4; have fz4 := hz.f 4; have z5 := hz.c5; have fz5 := hz.f 5; have cz0 := hv.c0; have y0 := hv.f 0; have cz1 := hv.c1; have y1 := hv.f 1; have cz2 := hv.c2; have y2 := hv.f 2; have cz3 := hv.c3; have y3 := hv.f 3; have cz4 := hv.c4; have y4 := hv.f 4; have cz5 := hv.c5; have y5 := hv.f 5; clear hi2 hfr2; have HS0 := HS; have HS := Lib.hid (HS.out.key (by omega) (by omega) (by omega) k1); have hz := HS.out.o; have hv := HS.out.z; have z0 := hz.c0; have fz0 := hz.f 0; have z1 := hz.c1; have fz1 := hz.f 1; have z2 := hz.c2; have fz2 := hz.f 2; have z3 := hz.c3; have fz3 := hz.f 3; have z4 := hz.c4; have fz4 := hz.f 4; have z5 := hz.c5; have fz5 := hz.f 5; have cz0 := hv.c0; have y0 := hv.f 0; have cz1 := hv.c1; have y1 := hv.f 1; have cz2 := hv.c2; have y2 := hv.f 2; have cz3 := hv.c3; have y3 := hv.f 3; have cz4 := hv.c4; have y4 := hv.f 4; have cz5 := hv.c5; have y5 := hv.f 5) | (go_at_call 10; (with_reducible refine (Hbe.out _ H0.out).mono ?_); rintro e w1 ⟨rfl, hi1, hfr1⟩; obtain ⟨hlt, hv, hs⟩ := OSt.new 3 hbl hi1 hfr1; have hv0 := hv; have cz0 := hv.c0; have y0 := hv.f 0; have cz1 := hv.c1; have y1 := hv.f 1; have cz2 := hv.c2; have y2 := hv.f 2; have cz3 := hv.c3; have y3 := hv.f 3; have cz4 := hv.c4; have y4 := hv.f 4; have cz5 := hv.c5; have y5 := hv.f 5; have HS := Lib.hid hs; have hz := HS.out.o; have hv := HS.out.z; have z0 := hz.c0; have fz0 := hz.f 0; have z1 := hz.c1; have fz1 := hz.f 1; have z2 := hz.c2; have fz2 := hz.f 2; have z3 := hz.c3; have fz3 := hz.f 3; have z4 := hz.c4; have fz4 := hz.f 4; have z5 := hz.c5; have fz5 := hz.f 5; have cz0 := hv.c0; have y0 := hv.f 0; have cz1 := hv.c1; have y1 := hv.f 1; have cz2 := hv.c2; have y2 := hv.f 2; have cz3 := hv.c3; have y3 := hv.f 3; have cz4 := hv.c4; have y4 := hv.f 4; have cz5 := hv.c5; have y5 := hv.f 5; clear hs hi1 hfr1) | (go_at_call 20; (with_reducible refine (Hki.out _).mono ?_); rintro e wk ⟨rfl, rfl⟩))
  (try simp only [Exit.inBlock, Exit.then])
  obtain ⟨hm9, hf9⟩ := HS.out.put (by omega) (by omega) ⟨3, k1, ⟨#[]⟩, n1, ⟨#[]⟩, ⟨#[]⟩⟩
  exact bodyPost_ret (v := Ord.v ⟨3, k1, ⟨#[]⟩, n1, ⟨#[]⟩, ⟨#[]⟩⟩) (by simp [results, Tryd.results12, go_sem, Ord.v, cz0, cz1, cz2, cz3, cz4, cz5]) rfl ⟨rfl, hm9, hf9⟩

set_option maxHeartbeats 1000000 in
set_option maxRecDepth 100000 in
theorem mOrder_6 (b : Nat) (r : Int) (x0 x1 : Int) (w : World) (h : MAt w b x0)
    (hbe : ∀ W, MAt W b x0 → Calls Tryd.prog 10 #[.pointer (some ⟨b, 0, none⟩), .int .i64 16] W fun e w' => e = .returned (.int .i64 r) ∧ MAt w' b x1 ∧ Fr (fun k => k = b) W w')
    (hki : ∀ W, Calls Tryd.prog 20 #[.int .i64 r] W fun e w' => e = .returned (.int .i64 6) ∧ W = w')  :
    Calls Tryd.prog 12 #[.pointer (some ⟨b, 0, none⟩)] w fun e w' => e = .returned (Ord.v ⟨6, ⟨#[]⟩, ⟨#[]⟩, 0, ⟨#[]⟩, ⟨#[]⟩⟩) ∧ MAt w' b x1 ∧ Fr (fun k => k = b) w w' := by
  have hbl := h.lt
  have H0 := Lib.hid (h.below (Below.alloc (Below.refl w.heap.size w) (Nat.le_refl _) (.cells #[.int .i64 0, .string ⟨#[]⟩, .string ⟨#[]⟩, .int .u64 0, .string ⟨#[]⟩, .string ⟨#[]⟩] 37)))
  have Hbe := Lib.hid hbe
  have Hki := Lib.hid hki
  clear h hbe hki 
  go_enter Tryd.func12, Tryd.ntmps12
  go_wp2_with (first | (go_at_call 10; (with_reducible refine (Hbe.out _ H0.out).mono ?_); rintro e w1 ⟨rfl, hi1, hfr1⟩; obtain ⟨hlt, hv, hs⟩ := OSt.new 6 hbl hi1 hfr1; have hv0 := hv; have cz0 := hv.c0; have y0 := hv.f 0; have cz1 := hv.c1; have y1 := hv.f 1; have cz2 := hv.c2; have y2 := hv.f 2; have cz3 := hv.c3; have y3 := hv.f 3; have cz4 := hv.c4; have y4 := hv.f 4; have cz5 := hv.c5; have y5 := hv.f 5; have HS := Lib.hid hs; have hz := HS.out.o; have hv := HS.out.z; have z0 := hz.c0; have fz0 := hz.f 0; have z1 := hz.c1; have fz1 := hz.f 1; have z2 := hz.c2; have fz2 := hz.f 2; have z3 := hz.c3; have fz3 := hz.f 3; have z4 := hz.c4; have fz4 := hz.f 4; have z5 := hz.c5; have fz5 := hz.f 5; have cz0 := hv.c0; have y0 := hv.f 0; have cz1 := hv.c1; have y1 := hv.f 1; have cz2 := hv.c2; have y2 := hv.f 2; have cz3 := hv.c3; have y3 := hv.f 3; have cz4 := hv.c4; have y4 := hv.f 4; have cz5 := hv.c5; have y5 := hv.f 5; clear hs) | (go_at_call 20; (with_reducible refine (Hki.out _).mono ?_); rintro e wk ⟨rfl, rfl⟩))
  (try simp only [Exit.inBlock, Exit.then])
  have hf8 := (((Fr.refl (fun k => k = b) w).alloc (.cells #[.int .i64 0, .string ⟨#[]⟩, .string ⟨#[]⟩, .int .u64 0, .string ⟨#[]⟩, .string ⟨#[]⟩] 37)).trans hfr1 (fun _ _ h => h)).trans (put6_fr w1 w.heap.size ⟨6, ⟨#[]⟩, ⟨#[]⟩, 0, ⟨#[]⟩, ⟨#[]⟩⟩) (fun i hi e => by omega)
  have hf9 := hf8.alloc (.cells #[.int .i64 6, .string ⟨#[]⟩, .string ⟨#[]⟩, .int .u64 0, .string ⟨#[]⟩, .string ⟨#[]⟩] 37)
  have hm9 := (hi1.fr (put6_fr w1 w.heap.size ⟨6, ⟨#[]⟩, ⟨#[]⟩, 0, ⟨#[]⟩, ⟨#[]⟩⟩) (by omega)).below (Below.alloc (Below.refl _ _) (Nat.le_refl _) (.cells #[.int .i64 6, .string ⟨#[]⟩, .string ⟨#[]⟩, .int .u64 0, .string ⟨#[]⟩, .string ⟨#[]⟩] 37))
  have hz9 := (hv0.put ⟨6, ⟨#[]⟩, ⟨#[]⟩, 0, ⟨#[]⟩, ⟨#[]⟩⟩).below (Below.alloc (Below.refl _ _) (Nat.le_refl _) (.cells #[.int .i64 6, .string ⟨#[]⟩, .string ⟨#[]⟩, .int .u64 0, .string ⟨#[]⟩, .string ⟨#[]⟩] 37))
  have e0 := hz9.c0
  have e1 := hz9.c1
  have e2 := hz9.c2
  have e3 := hz9.c3
  have e4 := hz9.c4
  have e5 := hz9.c5
  simp only [put6] at e0 e1 e2 e3 e4 e5
  exact bodyPost_ret (v := Ord.v ⟨6, ⟨#[]⟩, ⟨#[]⟩, 0, ⟨#[]⟩, ⟨#[]⟩⟩) (by simp [results, Tryd.results12, go_sem, Ord.v, e0, e1, e2, e3, e4, e5]) rfl ⟨rfl, hm9, hf9⟩

set_option maxHeartbeats 1000000 in
set_option maxRecDepth 100000 in
theorem mOrder_7 (b : Nat) (r : Int) (x0 x1 : Int) (w : World) (h : MAt w b x0)
    (hbe : ∀ W, MAt W b x0 → Calls Tryd.prog 10 #[.pointer (some ⟨b, 0, none⟩), .int .i64 16] W fun e w' => e = .returned (.int .i64 r) ∧ MAt w' b x1 ∧ Fr (fun k => k = b) W w')
    (hki : ∀ W, Calls Tryd.prog 20 #[.int .i64 r] W fun e w' => e = .returned (.int .i64 7) ∧ W = w')  :
    Calls Tryd.prog 12 #[.pointer (some ⟨b, 0, none⟩)] w fun e w' => e = .returned (Ord.v ⟨7, ⟨#[]⟩, ⟨#[]⟩, 0, ⟨#[]⟩, ⟨#[]⟩⟩) ∧ MAt w' b x1 ∧ Fr (fun k => k = b) w w' := by
  have hbl := h.lt
  have H0 := Lib.hid (h.below (Below.alloc (Below.refl w.heap.size w) (Nat.le_refl _) (.cells #[.int .i64 0, .string ⟨#[]⟩, .string ⟨#[]⟩, .int .u64 0, .string ⟨#[]⟩, .string ⟨#[]⟩] 37)))
  have Hbe := Lib.hid hbe
  have Hki := Lib.hid hki
  clear h hbe hki 
  go_enter Tryd.func12, Tryd.ntmps12
  go_wp2_with (first | (go_at_call 10; (with_reducible refine (Hbe.out _ H0.out).mono ?_); rintro e w1 ⟨rfl, hi1, hfr1⟩; obtain ⟨hlt, hv, hs⟩ := OSt.new 7 hbl hi1 hfr1; have hv0 := hv; have cz0 := hv.c0; have y0 := hv.f 0; have cz1 := hv.c1; have y1 := hv.f 1; have cz2 := hv.c2; have y2 := hv.f 2; have cz3 := hv.c3; have y3 := hv.f 3; have cz4 := hv.c4; have y4 := hv.f 4; have cz5 := hv.c5; have y5 := hv.f 5; have HS := Lib.hid hs; have hz := HS.out.o; have hv := HS.out.z; have z0 := hz.c0; have fz0 := hz.f 0; have z1 := hz.c1; have fz1 := hz.f 1; have z2 := hz.c2; have fz2 := hz.f 2; have z3 := hz.c3; have fz3 := hz.f 3; have z4 := hz.c4; have fz4 := hz.f 4; have z5 := hz.c5; have fz5 := hz.f 5; have cz0 := hv.c0; have y0 := hv.f 0; have cz1 := hv.c1; have y1 := hv.f 1; have cz2 := hv.c2; have y2 := hv.f 2; have cz3 := hv.c3; have y3 := hv.f 3; have cz4 := hv.c4; have y4 := hv.f 4; have cz5 := hv.c5; have y5 := hv.f 5; clear hs) | (go_at_call 20; (with_reducible refine (Hki.out _).mono ?_); rintro e wk ⟨rfl, rfl⟩))
  (try simp only [Exit.inBlock, Exit.then])
  have hf8 := (((Fr.refl (fun k => k = b) w).alloc (.cells #[.int .i64 0, .string ⟨#[]⟩, .string ⟨#[]⟩, .int .u64 0, .string ⟨#[]⟩, .string ⟨#[]⟩] 37)).trans hfr1 (fun _ _ h => h)).trans (put6_fr w1 w.heap.size ⟨7, ⟨#[]⟩, ⟨#[]⟩, 0, ⟨#[]⟩, ⟨#[]⟩⟩) (fun i hi e => by omega)
  have hf9 := hf8.alloc (.cells #[.int .i64 7, .string ⟨#[]⟩, .string ⟨#[]⟩, .int .u64 0, .string ⟨#[]⟩, .string ⟨#[]⟩] 37)
  have hm9 := (hi1.fr (put6_fr w1 w.heap.size ⟨7, ⟨#[]⟩, ⟨#[]⟩, 0, ⟨#[]⟩, ⟨#[]⟩⟩) (by omega)).below (Below.alloc (Below.refl _ _) (Nat.le_refl _) (.cells #[.int .i64 7, .string ⟨#[]⟩, .string ⟨#[]⟩, .int .u64 0, .string ⟨#[]⟩, .string ⟨#[]⟩] 37))
  have hz9 := (hv0.put ⟨7, ⟨#[]⟩, ⟨#[]⟩, 0, ⟨#[]⟩, ⟨#[]⟩⟩).below (Below.alloc (Below.refl _ _) (Nat.le_refl _) (.cells #[.int .i64 7, .string ⟨#[]⟩, .string ⟨#[]⟩, .int .u64 0, .string ⟨#[]⟩, .string ⟨#[]⟩] 37))
  have e0 := hz9.c0
  have e1 := hz9.c1
  have e2 := hz9.c2
  have e3 := hz9.c3
  have e4 := hz9.c4
  have e5 := hz9.c5
  simp only [put6] at e0 e1 e2 e3 e4 e5
  exact bodyPost_ret (v := Ord.v ⟨7, ⟨#[]⟩, ⟨#[]⟩, 0, ⟨#[]⟩, ⟨#[]⟩⟩) (by simp [results, Tryd.results12, go_sem, Ord.v, e0, e1, e2, e3, e4, e5]) rfl ⟨rfl, hm9, hf9⟩

set_option maxHeartbeats 1000000 in
set_option maxRecDepth 100000 in
theorem mOrder_8 (b : Nat) (r : Int) (x0 x1 : Int) (w : World) (h : MAt w b x0)
    (hbe : ∀ W, MAt W b x0 → Calls Tryd.prog 10 #[.pointer (some ⟨b, 0, none⟩), .int .i64 16] W fun e w' => e = .returned (.int .i64 r) ∧ MAt w' b x1 ∧ Fr (fun k => k = b) W w')
    (hki : ∀ W, Calls Tryd.prog 20 #[.int .i64 r] W fun e w' => e = .returned (.int .i64 8) ∧ W = w')  :
    Calls Tryd.prog 12 #[.pointer (some ⟨b, 0, none⟩)] w fun e w' => e = .returned (Ord.v ⟨8, ⟨#[]⟩, ⟨#[]⟩, 0, ⟨#[]⟩, ⟨#[]⟩⟩) ∧ MAt w' b x1 ∧ Fr (fun k => k = b) w w' := by
  have hbl := h.lt
  have H0 := Lib.hid (h.below (Below.alloc (Below.refl w.heap.size w) (Nat.le_refl _) (.cells #[.int .i64 0, .string ⟨#[]⟩, .string ⟨#[]⟩, .int .u64 0, .string ⟨#[]⟩, .string ⟨#[]⟩] 37)))
  have Hbe := Lib.hid hbe
  have Hki := Lib.hid hki
  clear h hbe hki 
  go_enter Tryd.func12, Tryd.ntmps12
  go_wp2_with (first | (go_at_call 10; (with_reducible refine (Hbe.out _ H0.out).mono ?_); rintro e w1 ⟨rfl, hi1, hfr1⟩; obtain ⟨hlt, hv, hs⟩ := OSt.new 8 hbl hi1 hfr1; have hv0 := hv; have cz0 := hv.c0; have y0 := hv.f 0; have cz1 := hv.c1; have y1 := hv.f 1; have cz2 := hv.c2; have y2 := hv.f 2; have cz3 := hv.c3; have y3 := hv.f 3; have cz4 := hv.c4; have y4 := hv.f 4; have cz5 := hv.c5; have y5 := hv.f 5; have HS := Lib.hid hs; have hz := HS.out.o; have hv := HS.out.z; have z0 := hz.c0; have fz0 := hz.f 0; have z1 := hz.c1; have fz1 := hz.f 1; have z2 := hz.c2; have fz2 := hz.f 2; have z3 := hz.c3; have fz3 := hz.f 3; have z4 := hz.c4; have fz4 := hz.f 4; have z5 := hz.c5; have fz5 := hz.f 5; have cz0 := hv.c0; have y0 := hv.f 0; have cz1 := hv.c1; have y1 := hv.f 1; have cz2 := hv.c2; have y2 := hv.f 2; have cz3 := hv.c3; have y3 := hv.f 3; have cz4 := hv.c4; have y4 := hv.f 4; have cz5 := hv.c5; have y5 := hv.f 5; clear hs) | (go_at_call 20; (with_reducible refine (Hki.out _).mono ?_); rintro e wk ⟨rfl, rfl⟩))
  (try simp only [Exit.inBlock, Exit.then])
  have hf8 := (((Fr.refl (fun k => k = b) w).alloc (.cells #[.int .i64 0, .string ⟨#[]⟩, .string ⟨#[]⟩, .int .u64 0, .string ⟨#[]⟩, .string ⟨#[]⟩] 37)).trans hfr1 (fun _ _ h => h)).trans (put6_fr w1 w.heap.size ⟨8, ⟨#[]⟩, ⟨#[]⟩, 0, ⟨#[]⟩, ⟨#[]⟩⟩) (fun i hi e => by omega)
  have hf9 := hf8.alloc (.cells #[.int .i64 8, .string ⟨#[]⟩, .string ⟨#[]⟩, .int .u64 0, .string ⟨#[]⟩, .string ⟨#[]⟩] 37)
  have hm9 := (hi1.fr (put6_fr w1 w.heap.size ⟨8, ⟨#[]⟩, ⟨#[]⟩, 0, ⟨#[]⟩, ⟨#[]⟩⟩) (by omega)).below (Below.alloc (Below.refl _ _) (Nat.le_refl _) (.cells #[.int .i64 8, .string ⟨#[]⟩, .string ⟨#[]⟩, .int .u64 0, .string ⟨#[]⟩, .string ⟨#[]⟩] 37))
  have hz9 := (hv0.put ⟨8, ⟨#[]⟩, ⟨#[]⟩, 0, ⟨#[]⟩, ⟨#[]⟩⟩).below (Below.alloc (Below.refl _ _) (Nat.le_refl _) (.cells #[.int .i64 8, .string ⟨#[]⟩, .string ⟨#[]⟩, .int .u64 0, .string ⟨#[]⟩, .string ⟨#[]⟩] 37))
  have e0 := hz9.c0
  have e1 := hz9.c1
  have e2 := hz9.c2
  have e3 := hz9.c3
  have e4 := hz9.c4
  have e5 := hz9.c5
  simp only [put6] at e0 e1 e2 e3 e4 e5
  exact bodyPost_ret (v := Ord.v ⟨8, ⟨#[]⟩, ⟨#[]⟩, 0, ⟨#[]⟩, ⟨#[]⟩⟩) (by simp [results, Tryd.results12, go_sem, Ord.v, e0, e1, e2, e3, e4, e5]) rfl ⟨rfl, hm9, hf9⟩

set_option maxHeartbeats 1000000 in
set_option maxRecDepth 100000 in
theorem mOrder_5 (b B : Nat) (r : Int) (x0 x1 x2 x3 : Int) (k1 : ByteArray) (k2 : ByteArray) (m1 m2 : ByteArray) (hm1 : Lib.minS k1 k2 = m1) (hm2 : Lib.maxS k1 k2 = m2) (w : World) (h : MAt w b x0) (hB : B ≤ b) (ht : Tab B w)
    (hbe : ∀ W, MAt W b x0 → Calls Tryd.prog 10 #[.pointer (some ⟨b, 0, none⟩), .int .i64 16] W fun e w' => e = .returned (.int .i64 r) ∧ MAt w' b x1 ∧ Fr (fun k => k = b) W w')
    (hki : ∀ W, Calls Tryd.prog 20 #[.int .i64 r] W fun e w' => e = .returned (.int .i64 5) ∧ W = w') (hc0 : ∀ W, MAt W b x1 → Tab B W → Calls Tryd.prog 21 #[.pointer (some ⟨b, 0, none⟩)] W fun e w' => e = .returned (.string k1) ∧ MAt w' b x2 ∧ Fr (fun k => k = b) W w') (hc1 : ∀ W, MAt W b x2 → Tab B W → Calls Tryd.prog 21 #[.pointer (some ⟨b, 0, none⟩)] W fun e w' => e = .returned (.string k2) ∧ MAt w' b x3 ∧ Fr (fun k => k = b) W w') :
    Calls Tryd.prog 12 #[.pointer (some ⟨b, 0, none⟩)] w fun e w' => e = .returned (Ord.v ⟨5, ⟨#[]⟩, ⟨#[]⟩, 0, m1, m2⟩) ∧ MAt w' b x3 ∧ Fr (fun k => k = b) w w' := by
  have hbl := h.lt
  have H0 := Lib.hid (h.below (Below.alloc (Below.refl w.heap.size w) (Nat.le_refl _) (.cells #[.int .i64 0, .string ⟨#[]⟩, .string ⟨#[]⟩, .int .u64 0, .string ⟨#[]⟩, .string ⟨#[]⟩] 37)))
  have Hbe := Lib.hid hbe
  have Hki := Lib.hid hki
  have Ht := Lib.hid ht
  have HC0 := Lib.hid hc0
  have HC1 := Lib.hid hc1
  clear h hbe hki ht hc0 hc1
  have hmin : ∀ (W : World) (ts : Array TypeId) (t : TypeId), (Builtin.min_ ts t #[.string k1, .string k2]).run Tryd.prog W = .ok (.string m1) W := fun W ts t => by rw [← hm1]; exact Lib.run_min_strs W ts t k1 k2
  have hmax : ∀ (W : World) (ts : Array TypeId) (t : TypeId), (Builtin.max_ ts t #[.string k1, .string k2]).run Tryd.prog W = .ok (.string m2) W := fun W ts t => by rw [← hm2]; exact Lib.run_max_strs W ts t k1 k2
  clear hm1 hm2
  go_enter Tryd.func12, Tryd.ntmps12
  go_wp2_with (first | (have _q := Q1; go_at_call 21; (with_reducible refine (HC1.out _ HS.out.m (Ht.out.fr HS.out.fr (by omega) (fun i e => by omega))).mono ?_); rintro e w3 ⟨rfl, hi2, hfr2⟩; have Q2 := True.intro; have HS := Lib.hid (HS.out.call (by omega) (by omega) hi2 hfr2); have hz := HS.out.o; have hv := HS.out.z; have z0 := hz.c0; have fz0 := hz.f 0; have z1 := hz.c1; have fz1 := hz.f 1; have z2 := hz.c2; have fz2 := hz.f 2; have z3 := hz.c3; have fz3 := hz.f 3; have z4 := hz.c4; have fz4 := hz.f 4; have z5 := hz.c5; have fz5 := hz.f 5; have cz0 := hv.c0; have y0 := hv.f 0; have cz1 := hv.c1; have y1 := hv.f 1; have cz2 := hv.c2; have y2 := hv.f 2; have cz3 := hv.c3; have y3 := hv.f 3; have cz4 := hv.c4; have y4 := hv.f 4; have cz5 := hv.c5; have y5 := hv.f 5; clear hi2 hfr2) | (go_at_call 21; (with_reducible refine (HC0.out _ HS.out.m (Ht.out.fr HS.out.fr (by omega) (fun i e => by omega))).mono ?_); rintro e w2 ⟨rfl, hi2, hfr2⟩; have Q1 := True.intro; have HS := Lib.hid (HS.out.call (by omega) (by omega) hi2 hfr2); have hz := HS.out.o; have hv := HS.out.z; have z0 := hz.c0; have fz0 := hz.f 0; have z1 := hz.c1; have fz1 := hz.f 1; have z2 := hz.c2; have fz2 := hz.f 2; have z3 := hz.c3; have fz3 := hz.f 3; have z4 := hz.c4; have fz4 := hz.f 4; have z5 := hz.c5; have fz5 := hz.f 5; have cz0 := hv.c0; have y0 := hv.f 0; have cz1 := hv.c1; have y1 := hv.f 1; have cz2 := hv.c2; have y2 := hv.f 2; have cz3 := hv.c3; have y3 := hv.f 3; have cz4 := hv.c4; have y4 := hv.f 4; have cz5 := hv.c5; have y5 := hv.f 5; clear hi2 hfr2) | (go_at_call 10; (with_reducible refine (Hbe.out _ H0.out).mono ?_); rintro e w1 ⟨rfl, hi1, hfr1⟩; obtain ⟨hlt, hv, hs⟩ := OSt.new 5 hbl hi1 hfr1; have hv0 := hv; have cz0 := hv.c0; have y0 := hv.f 0; have cz1 := hv.c1; have y1 := hv.f 1; have cz2 := hv.c2; have y2 := hv.f 2; have cz3 := hv.c3; have y3 := hv.f 3; have cz4 := hv.c4; have y4 := hv.f 4; have cz5 := hv.c5; have y5 := hv.f 5; have HS := Lib.hid hs; have hz := HS.out.o; have hv := HS.out.z; have z0 := hz.c0; have fz0 := hz.f 0; have z1 := hz.c1; have fz1 := hz.f 1; have z2 := hz.c2; have fz2 := hz.f 2; have z3 := hz.c3; have fz3 := hz.f 3; have z4 := hz.c4; have fz4 := hz.f 4; have z5 := hz.c5; have fz5 := hz.f 5; have cz0 := hv.c0; have y0 := hv.f 0; have cz1 := hv.c1; have y1 := hv.f 1; have cz2 := hv.c2; have y2 := hv.f 2; have cz3 := hv.c3; have y3 := hv.f 3; have cz4 := hv.c4; have y4 := hv.f 4; have cz5 := hv.c5; have y5 := hv.f 5; clear hs hi1 hfr1) | (go_at_call 20; (with_reducible refine (Hki.out _).mono ?_); rintro e wk ⟨rfl, rfl⟩))
  have HS := Lib.hid (HS.out.lo (by omega) (by omega) (by omega) m1)
  have HS := Lib.hid (HS.out.hi (by omega) (by omega) (by omega) m2)
  (try simp only [Exit.inBlock, Exit.then])
  obtain ⟨hm9, hf9⟩ := HS.out.put (by omega) (by omega) ⟨5, ⟨#[]⟩, ⟨#[]⟩, 0, m1, m2⟩
  exact bodyPost_ret (v := Ord.v ⟨5, ⟨#[]⟩, ⟨#[]⟩, 0, m1, m2⟩) (by simp [results, Tryd.results12, go_sem, Ord.v, cz0, cz1, cz2, cz3, cz4, cz5]) rfl ⟨rfl, hm9, hf9⟩


theorem kindS_cases (r : Int) (h0 : 0 ≤ r) (h1 : r < 16) : kindS r = 1 ∨ kindS r = 2 ∨ kindS r = 3 ∨ kindS r = 4 ∨ kindS r = 5 ∨ kindS r = 6 ∨ kindS r = 7 ∨ kindS r = 8 := by
  unfold kindS
  repeat' split
  all_goals omega
/-- an order of a state, and the state behind it -/
def orderS (x : Int) : Ord × Int :=
  if kindS (nZ (nS x) % 16) = 1 then (⟨1, keyB (nZ (nS (nS x)) % 300), valB (nZ (nS (nS (nS x))) % 17) (nZ (nS (nS (nS (nS x)))) % 26), 0, ⟨#[]⟩, ⟨#[]⟩⟩, nS (nS (nS (nS x))))
  else if kindS (nZ (nS x) % 16) = 2 then (⟨2, keyB (nZ (nS (nS x)) % 300), ⟨#[]⟩, 0, ⟨#[]⟩, ⟨#[]⟩⟩, nS (nS x))
  else if kindS (nZ (nS x) % 16) = 3 then (⟨3, keyB (nZ (nS (nS x)) % 300), ⟨#[]⟩, nZ (nS (nS (nS x))), ⟨#[]⟩, ⟨#[]⟩⟩, nS (nS (nS x)))
  else if kindS (nZ (nS x) % 16) = 4 then (⟨4, keyB (nZ (nS (nS x)) % 300), ⟨#[]⟩, 0, ⟨#[]⟩, ⟨#[]⟩⟩, nS (nS x))
  else if kindS (nZ (nS x) % 16) = 5 then (⟨5, ⟨#[]⟩, ⟨#[]⟩, 0, Lib.minS (keyB (nZ (nS (nS x)) % 300)) (keyB (nZ (nS (nS (nS x))) % 300)), Lib.maxS (keyB (nZ (nS (nS x)) % 300)) (keyB (nZ (nS (nS (nS x))) % 300))⟩, nS (nS (nS x)))
  else (⟨kindS (nZ (nS x) % 16), ⟨#[]⟩, ⟨#[]⟩, 0, ⟨#[]⟩, ⟨#[]⟩⟩, nS x)
theorem mOrder_any (b B : Nat) (x : Int) (w : World) (h : MAt w b x) (hB : B ≤ b) (ht : Tab B w) : Calls Tryd.prog 12 #[.pointer (some ⟨b, 0, none⟩)] w fun e w' => e = .returned (orderS x).1.v ∧ MAt w' b (orderS x).2 ∧ Fr (fun k => k = b) w w' := by
  have hbe := fun W h => mBelow_yes b x 16 W h (by decide) (by decide)
  have h0 := Int.emod_nonneg (nZ (nS x)) (show (16 : Int) ≠ 0 by decide)
  have h1 := Int.emod_lt_of_pos (nZ (nS x)) (show (0 : Int) < 16 by decide)
  have hki := fun W => kind_any (nZ (nS x) % 16) W h0 h1
  have hk1 := fun W h ht => mKey_any b B (nS x) W h hB ht
  have hk2 := fun W h ht => mKey_any b B (nS (nS x)) W h hB ht
  have hv := fun W h => mValue_any b (nS (nS x)) W h
  have hn := fun W h => mNext_any b (nS (nS x)) W h
  have hc := kindS_cases _ h0 h1
  unfold orderS
  generalize nZ (nS x) % 16 = r at hbe hki hc ⊢
  rcases hc with hc | hc | hc | hc | hc | hc | hc | hc
  all_goals rw [hc] at hki
  all_goals simp only [hc]
  · exact mOrder_1 b B r x _ _ _ _ _ w h hB ht hbe hki hk1 hv
  · exact mOrder_2 b B r x _ _ _ w h hB ht hbe hki hk1
  · exact mOrder_3 b B r x _ _ _ _ _ w h hB ht hbe hki hk1 hn
  · exact mOrder_4 b B r x _ _ _ w h hB ht hbe hki hk1
  · exact mOrder_5 b B r x _ _ _ _ _ _ _ rfl rfl w h hB ht hbe hki hk1 hk2
  · exact mOrder_6 b r x _ w h hbe hki
  · exact mOrder_7 b r x _ w h hbe hki
  · exact mOrder_8 b r x _ w h hbe hki
theorem mOrder_nil (w : World) : Calls Tryd.prog 12 #[.pointer none] w fun e w' => e = .returned (ord0 0).v ∧ Below w.heap.size w w' := by
  go_enter Tryd.func12, Tryd.ntmps12
  go_wp2
  (try simp only [Exit.inBlock, Exit.then])
  exact bodyPost_ret (v := (ord0 0).v) (by simp [results, Tryd.results12, go_sem, Ord.v, ord0]) rfl ⟨rfl, Below.alloc (Below.refl _ _) (Nat.le_refl _) _⟩

end Go.Proofs.YtdfgdnaejnngoaaDoor
