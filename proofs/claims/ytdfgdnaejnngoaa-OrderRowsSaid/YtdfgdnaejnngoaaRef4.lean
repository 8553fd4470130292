import Derived.Test.YtdfgdnaejnngoaaRef3
namespace Go.Proofs.Ytdfgdnaejnngoaa
open Go.RowKit

theorem sizes_of {o : Ord} (h : tooLong o = false) : o.key.size ≤ 255 ∧ o.val.size ≤ 255 ∧ o.lo.size ≤ 255 ∧ o.hi.size ≤ 255 := by
  simp only [tooLong, List.any_cons, List.any_nil, Bool.or_false, Bool.or_eq_false_iff, decide_eq_false_iff_not] at h
  omega

/-- a grangerref25.Order in block c -/
def ROrdAt (w : World) (c : Nat) (o : Ord) : Prop := w.heap[c]? = some (.cells #[.int .i64 o.kind, .string o.key, .string o.val, .int .u64 o.n, .string o.lo, .string o.hi] 27 (0, 0))
theorem ROrdAt.lt {w : World} {c : Nat} {o : Ord} (h : ROrdAt w c o) : c < w.heap.size := lt_of_row h
theorem ROrdAt.c0 {w : World} {c : Nat} {o : Ord} (h : ROrdAt w c o) : w.cell? ⟨c, 0, none⟩ = some (.int .i64 o.kind) := by rw [Lib.cell_of_heap h]; rfl
theorem ROrdAt.c1 {w : World} {c : Nat} {o : Ord} (h : ROrdAt w c o) : w.cell? ⟨c, 1, none⟩ = some (.string o.key) := by rw [Lib.cell_of_heap h]; rfl
theorem ROrdAt.c2 {w : World} {c : Nat} {o : Ord} (h : ROrdAt w c o) : w.cell? ⟨c, 2, none⟩ = some (.string o.val) := by rw [Lib.cell_of_heap h]; rfl
theorem ROrdAt.c3 {w : World} {c : Nat} {o : Ord} (h : ROrdAt w c o) : w.cell? ⟨c, 3, none⟩ = some (.int .u64 o.n) := by rw [Lib.cell_of_heap h]; rfl
theorem ROrdAt.c4 {w : World} {c : Nat} {o : Ord} (h : ROrdAt w c o) : w.cell? ⟨c, 4, none⟩ = some (.string o.lo) := by rw [Lib.cell_of_heap h]; rfl
theorem ROrdAt.c5 {w : World} {c : Nat} {o : Ord} (h : ROrdAt w c o) : w.cell? ⟨c, 5, none⟩ = some (.string o.hi) := by rw [Lib.cell_of_heap h]; rfl
theorem ROrdAt.f {w : World} {c : Nat} {o : Ord} (h : ROrdAt w c o) (j : Nat) : w.frozen? ⟨c, j, none⟩ = false := Lib.frozen_of_heap h j
theorem ROrdAt.fr {S : Nat → Prop} {w w' : World} {c : Nat} {o : Ord} (h : ROrdAt w c o) (hf : Fr S w w') (hs : ¬ S c) : ROrdAt w' c o := hf.row hs h
theorem ROrdAt.below {w w' : World} {c : Nat} {o : Ord} (h : ROrdAt w c o) (hf : Below w.heap.size w w') : ROrdAt w' c o := h.fr (Fr.of_below (S := fun _ => False) hf) id
theorem ROrdAt.new (w : World) (o : Ord) : ROrdAt (w.alloc (.cells #[.int .i64 o.kind, .string o.key, .string o.val, .int .u64 o.n, .string o.lo, .string o.hi] 27)) w.heap.size o := heap_alloc_new w _
theorem ROrdAt.set_key {w : World} {c : Nat} {o : Ord} (h : ROrdAt w c o) (t : ByteArray) : ROrdAt (w.setCell ⟨c, 1, none⟩ (.string t)) c { o with key := t } := by
  unfold ROrdAt at *
  simp [World.setCell, Array.getElem?_modify, h]
theorem ROrdAt.set_val {w : World} {c : Nat} {o : Ord} (h : ROrdAt w c o) (t : ByteArray) : ROrdAt (w.setCell ⟨c, 2, none⟩ (.string t)) c { o with val := t } := by
  unfold ROrdAt at *
  simp [World.setCell, Array.getElem?_modify, h]
theorem ROrdAt.set_lo {w : World} {c : Nat} {o : Ord} (h : ROrdAt w c o) (t : ByteArray) : ROrdAt (w.setCell ⟨c, 4, none⟩ (.string t)) c { o with lo := t } := by
  unfold ROrdAt at *
  simp [World.setCell, Array.getElem?_modify, h]
theorem ROrdAt.set_hi {w : World} {c : Nat} {o : Ord} (h : ROrdAt w c o) (t : ByteArray) : ROrdAt (w.setCell ⟨c, 5, none⟩ (.string t)) c { o with hi := t } := by
  unfold ROrdAt at *
  simp [World.setCell, Array.getElem?_modify, h]
theorem ROrdAt.set_n {w : World} {c : Nat} {o : Ord} (h : ROrdAt w c o) (t : Int) : ROrdAt (w.setCell ⟨c, 3, none⟩ (.int .u64 t)) c { o with n := t } := by
  unfold ROrdAt at *
  simp [World.setCell, Array.getElem?_modify, h]
theorem ROrdAt.put {w : World} {c : Nat} {o0 : Ord} (h : ROrdAt w c o0) (o : Ord) : ROrdAt (putOrd w c o) c o := by
  unfold ROrdAt putOrd at *
  simp [World.setCell, Array.getElem?_modify, h]

theorem textBytes_le {s : ByteArray} (h : s.size ≤ 255) : (textBytes s).length ≤ 256 := by
  simp [textBytes]
  exact h
set_option maxRecDepth 100000 in
theorem refBytes_1 (key val lo hi : ByteArray) (n : Nat) (w : World) (h1 : key.size ≤ 255) (h2 : val.size ≤ 255) (h3 : lo.size ≤ 255) (h4 : hi.size ≤ 255) (hn : n < 18446744073709551616) : Calls Try.prog 15 #[.agg #[.int .i64 1, .string key, .string val, .int .u64 (n : Int), .string lo, .string hi]] w
    fun e w' => e = .returned (.string ⟨(numBytes 1 1 ++ ([textBytes key, textBytes val] : List (List UInt8)).flatten).toArray⟩) ∧ Below w.heap.size w w' := by
  have hcv : (convert 88 9 (.slice (some ⟨w.heap.size + 1, 0, none⟩) 1 1)).run Try.prog ((w.alloc (.cells #[.int .i64 1, .string key, .string val, .int .u64 (n : Int), .string lo, .string hi] 27)).alloc (.cells #[.int .u8 1] 5)) = .ok (.string ⟨#[UInt8.ofNat 1]⟩) ((w.alloc (.cells #[.int .i64 1, .string key, .string val, .int .u64 (n : Int), .string lo, .string hi] 27)).alloc (.cells #[.int .u8 1] 5)) := by
    have h := conv_one (w.alloc (.cells #[.int .i64 1, .string key, .string val, .int .u64 (n : Int), .string lo, .string hi] 27)) 1
    simpa using h
  have ht := fun s hs W => refText_ok s W hs
  have Ht := Lib.hid ht
  have hv := fun W => refValue_any n W hn
  have Hv := Lib.hid hv
  have H1 := Lib.hid h1
  have H2 := Lib.hid h2
  have H3 := Lib.hid h3
  have H4 := Lib.hid h4
  have hb : Below w.heap.size w ((w.alloc (.cells #[.int .i64 1, .string key, .string val, .int .u64 (n : Int), .string lo, .string hi] 27)).alloc (.cells #[.int .u8 1] 5)) := (Below.alloc (Below.refl _ _) (Nat.le_refl _) _).alloc (by simp) _
  have hz := (ROrdAt.new w ⟨1, key, val, n, lo, hi⟩).below (below_alloc (o := .cells #[.int .u8 1] 5) (Below.refl _ _))
  have l1 := textBytes_le h1
  have l2 := textBytes_le h2
  have l3 := textBytes_le h3
  have l4 := textBytes_le h4
  have l5 : (valBytes n).length = 8 := by rw [valBytes_eight, numBytes_length]
  clear ht hv hn h1 h2 h3 h4
  go_enter Try.func15, Try.ntmps15
  go_wp2_with (first | (go_at_call 41; (with_reducible refine (Ht.out _ ?_ _).mono ?_); (first | exact H1.out | exact H2.out | exact H3.out | exact H4.out); rintro e w1 ⟨rfl, hb1⟩; have hb := below_next hb hb1; have hz := hz.below hb1; have z0 := hz.c0; have z1 := hz.c1; have z2 := hz.c2; have z3 := hz.c3; have z4 := hz.c4; have z5 := hz.c5; have y0 := hz.f 0; have y1 := hz.f 1; have y2 := hz.f 2; have y3 := hz.f 3; have y4 := hz.f 4; have y5 := hz.f 5; clear hb1) | (go_at_call 42; (with_reducible refine (Hv.out _).mono ?_); rintro e w2 ⟨rfl, hb2⟩; have hb := below_next hb hb2))
  all_goals try (exfalso; omega)
  all_goals (try simp only [Exit.inBlock, Exit.then])
  all_goals refine bodyPost_ret (v := .string ⟨(numBytes 1 1 ++ ([textBytes key, textBytes val] : List (List UInt8)).flatten).toArray⟩) ?_ rfl ⟨rfl, hb⟩
  all_goals simp [results, Try.results15, go_sem]
  all_goals first | rfl | (apply ByteArray.ext; simp [ByteArray.data_append, numBytes])
set_option maxRecDepth 100000 in
theorem refBytes_2 (key val lo hi : ByteArray) (n : Nat) (w : World) (h1 : key.size ≤ 255) (h2 : val.size ≤ 255) (h3 : lo.size ≤ 255) (h4 : hi.size ≤ 255) (hn : n < 18446744073709551616) : Calls Try.prog 15 #[.agg #[.int .i64 2, .string key, .string val, .int .u64 (n : Int), .string lo, .string hi]] w
    fun e w' => e = .returned (.string ⟨(numBytes 1 2 ++ ([textBytes key] : List (List UInt8)).flatten).toArray⟩) ∧ Below w.heap.size w w' := by
  have hcv : (convert 88 9 (.slice (some ⟨w.heap.size + 1, 0, none⟩) 1 1)).run Try.prog ((w.alloc (.cells #[.int .i64 2, .string key, .string val, .int .u64 (n : Int), .string lo, .string hi] 27)).alloc (.cells #[.int .u8 2] 5)) = .ok (.string ⟨#[UInt8.ofNat 2]⟩) ((w.alloc (.cells #[.int .i64 2, .string key, .string val, .int .u64 (n : Int), .string lo, .string hi] 27)).alloc (.cells #[.int .u8 2] 5)) := by
    have h := conv_one (w.alloc (.cells #[.int .i64 2, .string key, .string val, .int .u64 (n : Int), .string lo, .string hi] 27)) 2
    simpa using h
  have ht := fun s hs W => refText_ok s W hs
  have Ht := Lib.hid ht
  have hv := fun W => refValue_any n W hn
  have Hv := Lib.hid hv
  have H1 := Lib.hid h1
  have H2 := Lib.hid h2
  have H3 := Lib.hid h3
  have H4 := Lib.hid h4
  have hb : Below w.heap.size w ((w.alloc (.cells #[.int .i64 2, .string key, .string val, .int .u64 (n : Int), .string lo, .string hi] 27)).alloc (.cells #[.int .u8 2] 5)) := (Below.alloc (Below.refl _ _) (Nat.le_refl _) _).alloc (by simp) _
  have hz := (ROrdAt.new w ⟨2, key, val, n, lo, hi⟩).below (below_alloc (o := .cells #[.int .u8 2] 5) (Below.refl _ _))
  have l1 := textBytes_le h1
  have l2 := textBytes_le h2
  have l3 := textBytes_le h3
  have l4 := textBytes_le h4
  have l5 : (valBytes n).length = 8 := by rw [valBytes_eight, numBytes_length]
  clear ht hv hn h1 h2 h3 h4
  go_enter Try.func15, Try.ntmps15
  go_wp2_with (first | (go_at_call 41; (with_reducible refine (Ht.out _ ?_ _).mono ?_); (first | exact H1.out | exact H2.out | exact H3.out | exact H4.out); rintro e w1 ⟨rfl, hb1⟩; have hb := below_next hb hb1; have hz := hz.below hb1; have z0 := hz.c0; have z1 := hz.c1; have z2 := hz.c2; have z3 := hz.c3; have z4 := hz.c4; have z5 := hz.c5; have y0 := hz.f 0; have y1 := hz.f 1; have y2 := hz.f 2; have y3 := hz.f 3; have y4 := hz.f 4; have y5 := hz.f 5; clear hb1) | (go_at_call 42; (with_reducible refine (Hv.out _).mono ?_); rintro e w2 ⟨rfl, hb2⟩; have hb := below_next hb hb2))
  all_goals try (exfalso; omega)
  all_goals (try simp only [Exit.inBlock, Exit.then])
  all_goals refine bodyPost_ret (v := .string ⟨(numBytes 1 2 ++ ([textBytes key] : List (List UInt8)).flatten).toArray⟩) ?_ rfl ⟨rfl, hb⟩
  all_goals simp [results, Try.results15, go_sem]
  all_goals first | rfl | (apply ByteArray.ext; simp [ByteArray.data_append, numBytes])
set_option maxRecDepth 100000 in
theorem refBytes_3 (key val lo hi : ByteArray) (n : Nat) (w : World) (h1 : key.size ≤ 255) (h2 : val.size ≤ 255) (h3 : lo.size ≤ 255) (h4 : hi.size ≤ 255) (hn : n < 18446744073709551616) : Calls Try.prog 15 #[.agg #[.int .i64 3, .string key, .string val, .int .u64 (n : Int), .string lo, .string hi]] w
    fun e w' => e = .returned (.string ⟨(numBytes 1 3 ++ ([textBytes key, valBytes n] : List (List UInt8)).flatten).toArray⟩) ∧ Below w.heap.size w w' := by
  have hcv : (convert 88 9 (.slice (some ⟨w.heap.size + 1, 0, none⟩) 1 1)).run Try.prog ((w.alloc (.cells #[.int .i64 3, .string key, .string val, .int .u64 (n : Int), .string lo, .string hi] 27)).alloc (.cells #[.int .u8 3] 5)) = .ok (.string ⟨#[UInt8.ofNat 3]⟩) ((w.alloc (.cells #[.int .i64 3, .string key, .string val, .int .u64 (n : Int), .string lo, .string hi] 27)).alloc (.cells #[.int .u8 3] 5)) := by
    have h := conv_one (w.alloc (.cells #[.int .i64 3, .string key, .string val, .int .u64 (n : Int), .string lo, .string hi] 27)) 3
    simpa using h
  have ht := fun s hs W => refText_ok s W hs
  have Ht := Lib.hid ht
  have hv := fun W => refValue_any n W hn
  have Hv := Lib.hid hv
  have H1 := Lib.hid h1
  have H2 := Lib.hid h2
  have H3 := Lib.hid h3
  have H4 := Lib.hid h4
  have hb : Below w.heap.size w ((w.alloc (.cells #[.int .i64 3, .string key, .string val, .int .u64 (n : Int), .string lo, .string hi] 27)).alloc (.cells #[.int .u8 3] 5)) := (Below.alloc (Below.refl _ _) (Nat.le_refl _) _).alloc (by simp) _
  have hz := (ROrdAt.new w ⟨3, key, val, n, lo, hi⟩).below (below_alloc (o := .cells #[.int .u8 3] 5) (Below.refl _ _))
  have l1 := textBytes_le h1
  have l2 := textBytes_le h2
  have l3 := textBytes_le h3
  have l4 := textBytes_le h4
  have l5 : (valBytes n).length = 8 := by rw [valBytes_eight, numBytes_length]
  clear ht hv hn h1 h2 h3 h4
  go_enter Try.func15, Try.ntmps15
  go_wp2_with (first | (go_at_call 41; (with_reducible refine (Ht.out _ ?_ _).mono ?_); (first | exact H1.out | exact H2.out | exact H3.out | exact H4.out); rintro e w1 ⟨rfl, hb1⟩; have hb := below_next hb hb1; have hz := hz.below hb1; have z0 := hz.c0; have z1 := hz.c1; have z2 := hz.c2; have z3 := hz.c3; have z4 := hz.c4; have z5 := hz.c5; have y0 := hz.f 0; have y1 := hz.f 1; have y2 := hz.f 2; have y3 := hz.f 3; have y4 := hz.f 4; have y5 := hz.f 5; clear hb1) | (go_at_call 42; (with_reducible refine (Hv.out _).mono ?_); rintro e w2 ⟨rfl, hb2⟩; have hb := below_next hb hb2))
  all_goals try (exfalso; omega)
  all_goals (try simp only [Exit.inBlock, Exit.then])
  all_goals refine bodyPost_ret (v := .string ⟨(numBytes 1 3 ++ ([textBytes key, valBytes n] : List (List UInt8)).flatten).toArray⟩) ?_ rfl ⟨rfl, hb⟩
  all_goals simp [results, Try.results15, go_sem]
  all_goals first | rfl | (apply ByteArray.ext; simp [ByteArray.data_append, numBytes])
set_option maxRecDepth 100000 in
theorem refBytes_4 (key val lo hi : ByteArray) (n : Nat) (w : World) (h1 : key.size ≤ 255) (h2 : val.size ≤ 255) (h3 : lo.size ≤ 255) (h4 : hi.size ≤ 255) (hn : n < 18446744073709551616) : Calls Try.prog 15 #[.agg #[.int .i64 4, .string key, .string val, .int .u64 (n : Int), .string lo, .string hi]] w
    fun e w' => e = .returned (.string ⟨(numBytes 1 4 ++ ([textBytes key] : List (List UInt8)).flatten).toArray⟩) ∧ Below w.heap.size w w' := by
  have hcv : (convert 88 9 (.slice (some ⟨w.heap.size + 1, 0, none⟩) 1 1)).run Try.prog ((w.alloc (.cells #[.int .i64 4, .string key, .string val, .int .u64 (n : Int), .string lo, .string hi] 27)).alloc (.cells #[.int .u8 4] 5)) = .ok (.string ⟨#[UInt8.ofNat 4]⟩) ((w.alloc (.cells #[.int .i64 4, .string key, .string val, .int .u64 (n : Int), .string lo, .string hi] 27)).alloc (.cells #[.int .u8 4] 5)) := by
    have h := conv_one (w.alloc (.cells #[.int .i64 4, .string key, .string val, .int .u64 (n : Int), .string lo, .string hi] 27)) 4
    simpa using h
  have ht := fun s hs W => refText_ok s W hs
  have Ht := Lib.hid ht
  have hv := fun W => refValue_any n W hn
  have Hv := Lib.hid hv
  have H1 := Lib.hid h1
  have H2 := Lib.hid h2
  have H3 := Lib.hid h3
  have H4 := Lib.hid h4
  have hb : Below w.heap.size w ((w.alloc (.cells #[.int .i64 4, .string key, .string val, .int .u64 (n : Int), .string lo, .string hi] 27)).alloc (.cells #[.int .u8 4] 5)) := (Below.alloc (Below.refl _ _) (Nat.le_refl _) _).alloc (by simp) _
  have hz := (ROrdAt.new w ⟨4, key, val, n, lo, hi⟩).below (below_alloc (o := .cells #[.int .u8 4] 5) (Below.refl _ _))
  have l1 := textBytes_le h1
  have l2 := textBytes_le h2
  have l3 := textBytes_le h3
  have l4 := textBytes_le h4
  have l5 : (valBytes n).length = 8 := by rw [valBytes_eight, numBytes_length]
  clear ht hv hn h1 h2 h3 h4
  go_enter Try.func15, Try.ntmps15
  go_wp2_with (first | (go_at_call 41; (with_reducible refine (Ht.out _ ?_ _).mono ?_); (first | exact H1.out | exact H2.out | exact H3.out | exact H4.out); rintro e w1 ⟨rfl, hb1⟩; have hb := below_next hb hb1; have hz := hz.below hb1; have z0 := hz.c0; have z1 := hz.c1; have z2 := hz.c2; have z3 := hz.c3; have z4 := hz.c4; have z5 := hz.c5; have y0 := hz.f 0; have y1 := hz.f 1; have y2 := hz.f 2; have y3 := hz.f 3; have y4 := hz.f 4; have y5 := hz.f 5; clear hb1) | (go_at_call 42; (with_reducible refine (Hv.out _).mono ?_); rintro e w2 ⟨rfl, hb2⟩; have hb := below_next hb hb2))
  all_goals try (exfalso; omega)
  all_goals (try simp only [Exit.inBlock, Exit.then])
  all_goals refine bodyPost_ret (v := .string ⟨(numBytes 1 4 ++ ([textBytes key] : List (List UInt8)).flatten).toArray⟩) ?_ rfl ⟨rfl, hb⟩
  all_goals simp [results, Try.results15, go_sem]
  all_goals first | rfl | (apply ByteArray.ext; simp [ByteArray.data_append, numBytes])
set_option maxRecDepth 100000 in
theorem refBytes_5 (key val lo hi : ByteArray) (n : Nat) (w : World) (h1 : key.size ≤ 255) (h2 : val.size ≤ 255) (h3 : lo.size ≤ 255) (h4 : hi.size ≤ 255) (hn : n < 18446744073709551616) : Calls Try.prog 15 #[.agg #[.int .i64 5, .string key, .string val, .int .u64 (n : Int), .string lo, .string hi]] w
    fun e w' => e = .returned (.string ⟨(numBytes 1 5 ++ ([textBytes lo, textBytes hi] : List (List UInt8)).flatten).toArray⟩) ∧ Below w.heap.size w w' := by
  have hcv : (convert 88 9 (.slice (some ⟨w.heap.size + 1, 0, none⟩) 1 1)).run Try.prog ((w.alloc (.cells #[.int .i64 5, .string key, .string val, .int .u64 (n : Int), .string lo, .string hi] 27)).alloc (.cells #[.int .u8 5] 5)) = .ok (.string ⟨#[UInt8.ofNat 5]⟩) ((w.alloc (.cells #[.int .i64 5, .string key, .string val, .int .u64 (n : Int), .string lo, .string hi] 27)).alloc (.cells #[.int .u8 5] 5)) := by
    have h := conv_one (w.alloc (.cells #[.int .i64 5, .string key, .string val, .int .u64 (n : Int), .string lo, .string hi] 27)) 5
    simpa using h
  have ht := fun s hs W => refText_ok s W hs
  have Ht := Lib.hid ht
  have hv := fun W => refValue_any n W hn
  have Hv := Lib.hid hv
  have H1 := Lib.hid h1
  have H2 := Lib.hid h2
  have H3 := Lib.hid h3
  have H4 := Lib.hid h4
  have hb : Below w.heap.size w ((w.alloc (.cells #[.int .i64 5, .string key, .string val, .int .u64 (n : Int), .string lo, .string hi] 27)).alloc (.cells #[.int .u8 5] 5)) := (Below.alloc (Below.refl _ _) (Nat.le_refl _) _).alloc (by simp) _
  have hz := (ROrdAt.new w ⟨5, key, val, n, lo, hi⟩).below (below_alloc (o := .cells #[.int .u8 5] 5) (Below.refl _ _))
  have l1 := textBytes_le h1
  have l2 := textBytes_le h2
  have l3 := textBytes_le h3
  have l4 := textBytes_le h4
  have l5 : (valBytes n).length = 8 := by rw [valBytes_eight, numBytes_length]
  clear ht hv hn h1 h2 h3 h4
  go_enter Try.func15, Try.ntmps15
  go_wp2_with (first | (go_at_call 41; (with_reducible refine (Ht.out _ ?_ _).mono ?_); (first | exact H1.out | exact H2.out | exact H3.out | exact H4.out); rintro e w1 ⟨rfl, hb1⟩; have hb := below_next hb hb1; have hz := hz.below hb1; have z0 := hz.c0; have z1 := hz.c1; have z2 := hz.c2; have z3 := hz.c3; have z4 := hz.c4; have z5 := hz.c5; have y0 := hz.f 0; have y1 := hz.f 1; have y2 := hz.f 2; have y3 := hz.f 3; have y4 := hz.f 4; have y5 := hz.f 5; clear hb1) | (go_at_call 42; (with_reducible refine (Hv.out _).mono ?_); rintro e w2 ⟨rfl, hb2⟩; have hb := below_next hb hb2))
  all_goals try (exfalso; omega)
  all_goals (try simp only [Exit.inBlock, Exit.then])
  all_goals refine bodyPost_ret (v := .string ⟨(numBytes 1 5 ++ ([textBytes lo, textBytes hi] : List (List UInt8)).flatten).toArray⟩) ?_ rfl ⟨rfl, hb⟩
  all_goals simp [results, Try.results15, go_sem]
  all_goals first | rfl | (apply ByteArray.ext; simp [ByteArray.data_append, numBytes])
set_option maxRecDepth 100000 in
theorem refBytes_6 (key val lo hi : ByteArray) (n : Nat) (w : World) (h1 : key.size ≤ 255) (h2 : val.size ≤ 255) (h3 : lo.size ≤ 255) (h4 : hi.size ≤ 255) (hn : n < 18446744073709551616) : Calls Try.prog 15 #[.agg #[.int .i64 6, .string key, .string val, .int .u64 (n : Int), .string lo, .string hi]] w
    fun e w' => e = .returned (.string ⟨(numBytes 1 6 ++ ([] : List (List UInt8)).flatten).toArray⟩) ∧ Below w.heap.size w w' := by
  have hcv : (convert 88 9 (.slice (some ⟨w.heap.size + 1, 0, none⟩) 1 1)).run Try.prog ((w.alloc (.cells #[.int .i64 6, .string key, .string val, .int .u64 (n : Int), .string lo, .string hi] 27)).alloc (.cells #[.int .u8 6] 5)) = .ok (.string ⟨#[UInt8.ofNat 6]⟩) ((w.alloc (.cells #[.int .i64 6, .string key, .string val, .int .u64 (n : Int), .string lo, .string hi] 27)).alloc (.cells #[.int .u8 6] 5)) := by
    have h := conv_one (w.alloc (.cells #[.int .i64 6, .string key, .string val, .int .u64 (n : Int), .string lo, .string hi] 27)) 6
    simpa using h
  have ht := fun s hs W => refText_ok s W hs
  have Ht := Lib.hid ht
  have hv := fun W => refValue_any n W hn
  have Hv := Lib.hid hv
  have H1 := Lib.hid h1
  have H2 := Lib.hid h2
  have H3 := Lib.hid h3
  have H4 := Lib.hid h4
  have hb : Below w.heap.size w ((w.alloc (.cells #[.int .i64 6, .string key, .string val, .int .u64 (n : Int), .string lo, .string hi] 27)).alloc (.cells #[.int .u8 6] 5)) := (Below.alloc (Below.refl _ _) (Nat.le_refl _) _).alloc (by simp) _
  have hz := (ROrdAt.new w ⟨6, key, val, n, lo, hi⟩).below (below_alloc (o := .cells #[.int .u8 6] 5) (Below.refl _ _))
  have l1 := textBytes_le h1
  have l2 := textBytes_le h2
  have l3 := textBytes_le h3
  have l4 := textBytes_le h4
  have l5 : (valBytes n).length = 8 := by rw [valBytes_eight, numBytes_length]
  clear ht hv hn h1 h2 h3 h4
  go_enter Try.func15, Try.ntmps15
  go_wp2_with (first | (go_at_call 41; (with_reducible refine (Ht.out _ ?_ _).mono ?_); (first | exact H1.out | exact H2.out | exact H3.out | exact H4.out); rintro e w1 ⟨rfl, hb1⟩; have hb := below_next hb hb1; have hz := hz.below hb1; have z0 := hz.c0; have z1 := hz.c1; have z2 := hz.c2; have z3 := hz.c3; have z4 := hz.c4; have z5 := hz.c5; have y0 := hz.f 0; have y1 := hz.f 1; have y2 := hz.f 2; have y3 := hz.f 3; have y4 := hz.f 4; have y5 := hz.f 5; clear hb1) | (go_at_call 42; (with_reducible refine (Hv.out _).mono ?_); rintro e w2 ⟨rfl, hb2⟩; have hb := below_next hb hb2))
  all_goals try (exfalso; omega)
  all_goals (try simp only [Exit.inBlock, Exit.then])
  all_goals refine bodyPost_ret (v := .string ⟨(numBytes 1 6 ++ ([] : List (List UInt8)).flatten).toArray⟩) ?_ rfl ⟨rfl, hb⟩
  all_goals simp [results, Try.results15, go_sem]
  all_goals first | rfl | (apply ByteArray.ext; simp [ByteArray.data_append, numBytes])
set_option maxRecDepth 100000 in
theorem refBytes_7 (key val lo hi : ByteArray) (n : Nat) (w : World) (h1 : key.size ≤ 255) (h2 : val.size ≤ 255) (h3 : lo.size ≤ 255) (h4 : hi.size ≤ 255) (hn : n < 18446744073709551616) : Calls Try.prog 15 #[.agg #[.int .i64 7, .string key, .string val, .int .u64 (n : Int), .string lo, .string hi]] w
    fun e w' => e = .returned (.string ⟨(numBytes 1 7 ++ ([] : List (List UInt8)).flatten).toArray⟩) ∧ Below w.heap.size w w' := by
  have hcv : (convert 88 9 (.slice (some ⟨w.heap.size + 1, 0, none⟩) 1 1)).run Try.prog ((w.alloc (.cells #[.int .i64 7, .string key, .string val, .int .u64 (n : Int), .string lo, .string hi] 27)).alloc (.cells #[.int .u8 7] 5)) = .ok (.string ⟨#[UInt8.ofNat 7]⟩) ((w.alloc (.cells #[.int .i64 7, .string key, .string val, .int .u64 (n : Int), .string lo, .string hi] 27)).alloc (.cells #[.int .u8 7] 5)) := by
    have h := conv_one (w.alloc (.cells #[.int .i64 7, .string key, .string val, .int .u64 (n : Int), .string lo, .string hi] 27)) 7
    simpa using h
  have ht := fun s hs W => refText_ok s W hs
  have Ht := Lib.hid ht
  have hv := fun W => refValue_any n W hn
  have Hv := Lib.hid hv
  have H1 := Lib.hid h1
  have H2 := Lib.hid h2
  have H3 := Lib.hid h3
  have H4 := Lib.hid h4
  have hb : Below w.heap.size w ((w.alloc (.cells #[.int .i64 7, .string key, .string val, .int .u64 (n : Int), .string lo, .string hi] 27)).alloc (.cells #[.int .u8 7] 5)) := (Below.alloc (Below.refl _ _) (Nat.le_refl _) _).alloc (by simp) _
  have hz := (ROrdAt.new w ⟨7, key, val, n, lo, hi⟩).below (below_alloc (o := .cells #[.int .u8 7] 5) (Below.refl _ _))
  have l1 := textBytes_le h1
  have l2 := textBytes_le h2
  have l3 := textBytes_le h3
  have l4 := textBytes_le h4
  have l5 : (valBytes n).length = 8 := by rw [valBytes_eight, numBytes_length]
  clear ht hv hn h1 h2 h3 h4
  go_enter Try.func15, Try.ntmps15
  go_wp2_with (first | (go_at_call 41; (with_reducible refine (Ht.out _ ?_ _).mono ?_); (first | exact H1.out | exact H2.out | exact H3.out | exact H4.out); rintro e w1 ⟨rfl, hb1⟩; have hb := below_next hb hb1; have hz := hz.below hb1; have z0 := hz.c0; have z1 := hz.c1; have z2 := hz.c2; have z3 := hz.c3; have z4 := hz.c4; have z5 := hz.c5; have y0 := hz.f 0; have y1 := hz.f 1; have y2 := hz.f 2; have y3 := hz.f 3; have y4 := hz.f 4; have y5 := hz.f 5; clear hb1) | (go_at_call 42; (with_reducible refine (Hv.out _).mono ?_); rintro e w2 ⟨rfl, hb2⟩; have hb := below_next hb hb2))
  all_goals try (exfalso; omega)
  all_goals (try simp only [Exit.inBlock, Exit.then])
  all_goals refine bodyPost_ret (v := .string ⟨(numBytes 1 7 ++ ([] : List (List UInt8)).flatten).toArray⟩) ?_ rfl ⟨rfl, hb⟩
  all_goals simp [results, Try.results15, go_sem]
  all_goals first | rfl | (apply ByteArray.ext; simp [ByteArray.data_append, numBytes])
set_option maxRecDepth 100000 in
theorem refBytes_8 (key val lo hi : ByteArray) (n : Nat) (w : World) (h1 : key.size ≤ 255) (h2 : val.size ≤ 255) (h3 : lo.size ≤ 255) (h4 : hi.size ≤ 255) (hn : n < 18446744073709551616) : Calls Try.prog 15 #[.agg #[.int .i64 8, .string key, .string val, .int .u64 (n : Int), .string lo, .string hi]] w
    fun e w' => e = .returned (.string ⟨(numBytes 1 8 ++ ([] : List (List UInt8)).flatten).toArray⟩) ∧ Below w.heap.size w w' := by
  have hcv : (convert 88 9 (.slice (some ⟨w.heap.size + 1, 0, none⟩) 1 1)).run Try.prog ((w.alloc (.cells #[.int .i64 8, .string key, .string val, .int .u64 (n : Int), .string lo, .string hi] 27)).alloc (.cells #[.int .u8 8] 5)) = .ok (.string ⟨#[UInt8.ofNat 8]⟩) ((w.alloc (.cells #[.int .i64 8, .string key, .string val, .int .u64 (n : Int), .string lo, .string hi] 27)).alloc (.cells #[.int .u8 8] 5)) := by
    have h := conv_one (w.alloc (.cells #[.int .i64 8, .string key, .string val, .int .u64 (n : Int), .string lo, .string hi] 27)) 8
    simpa using h
  have ht := fun s hs W => refText_ok s W hs
  have Ht := Lib.hid ht
  have hv := fun W => refValue_any n W hn
  have Hv := Lib.hid hv
  have H1 := Lib.hid h1
  have H2 := Lib.hid h2
  have H3 := Lib.hid h3
  have H4 := Lib.hid h4
  have hb : Below w.heap.size w ((w.alloc (.cells #[.int .i64 8, .string key, .string val, .int .u64 (n : Int), .string lo, .string hi] 27)).alloc (.cells #[.int .u8 8] 5)) := (Below.alloc (Below.refl _ _) (Nat.le_refl _) _).alloc (by simp) _
  have hz := (ROrdAt.new w ⟨8, key, val, n, lo, hi⟩).below (below_alloc (o := .cells #[.int .u8 8] 5) (Below.refl _ _))
  have l1 := textBytes_le h1
  have l2 := textBytes_le h2
  have l3 := textBytes_le h3
  have l4 := textBytes_le h4
  have l5 : (valBytes n).length = 8 := by rw [valBytes_eight, numBytes_length]
  clear ht hv hn h1 h2 h3 h4
  go_enter Try.func15, Try.ntmps15
  go_wp2_with (first | (go_at_call 41; (with_reducible refine (Ht.out _ ?_ _).mono ?_); (first | exact H1.out | exact H2.out | exact H3.out | exact H4.out); rintro e w1 ⟨rfl, hb1⟩; have hb := below_next hb hb1; have hz := hz.below hb1; have z0 := hz.c0; have z1 := hz.c1; have z2 := hz.c2; have z3 := hz.c3; have z4 := hz.c4; have z5 := hz.c5; have y0 := hz.f 0; have y1 := hz.f 1; have y2 := hz.f 2; have y3 := hz.f 3; have y4 := hz.f 4; have y5 := hz.f 5; clear hb1) | (go_at_call 42; (with_reducible refine (Hv.out _).mono ?_); rintro e w2 ⟨rfl, hb2⟩; have hb := below_next hb hb2))
  all_goals try (exfalso; omega)
  all_goals (try simp only [Exit.inBlock, Exit.then])
  all_goals refine bodyPost_ret (v := .string ⟨(numBytes 1 8 ++ ([] : List (List UInt8)).flatten).toArray⟩) ?_ rfl ⟨rfl, hb⟩
  all_goals simp [results, Try.results15, go_sem]
  all_goals first | rfl | (apply ByteArray.ext; simp [ByteArray.data_append, numBytes])
theorem refBytes_any (o : Ord) (w : World) (h : isOrd o = true) (hf : o.fits) : Calls Try.prog 15 #[o.v] w fun e w' => e = .returned (.string ⟨(ordBytes o).toArray⟩) ∧ Below w.heap.size w w' := by
  obtain ⟨k, key, val, n, lo, hi⟩ := o
  have hk : okKind k = true := by simp [isOrd] at h; exact h.1
  have hl : tooLong ⟨k, key, val, n, lo, hi⟩ = false := by simp [isOrd] at h; exact h.2.2
  obtain ⟨h1, h2, h3, h4⟩ := sizes_of hl
  obtain ⟨f0, f1⟩ := hf
  obtain ⟨m, rfl⟩ := Int.eq_ofNat_of_zero_le f0
  have f1 : m < 18446744073709551616 := f1
  have hk : k = 1 ∨ k = 2 ∨ k = 3 ∨ k = 4 ∨ k = 5 ∨ k = 6 ∨ k = 7 ∨ k = 8 := by simp [okKind] at hk; omega
  rcases hk with rfl | rfl | rfl | rfl | rfl | rfl | rfl | rfl
  · exact refBytes_1 key val lo hi m w h1 h2 h3 h4 f1
  · exact refBytes_2 key val lo hi m w h1 h2 h3 h4 f1
  · exact refBytes_3 key val lo hi m w h1 h2 h3 h4 f1
  · exact refBytes_4 key val lo hi m w h1 h2 h3 h4 f1
  · exact refBytes_5 key val lo hi m w h1 h2 h3 h4 f1
  · exact refBytes_6 key val lo hi m w h1 h2 h3 h4 f1
  · exact refBytes_7 key val lo hi m w h1 h2 h3 h4 f1
  · exact refBytes_8 key val lo hi m w h1 h2 h3 h4 f1
end Go.Proofs.Ytdfgdnaejnngoaa
