import Derived.Test.YtdfgdnaejnngoaaLaw2
namespace Go.Proofs.Ytdfgdnaejnngoaa
open Go.RowKit

theorem RIn.new_at (W : World) (g : Nat) (s : ByteArray) (hg : W.heap.size = g) : RIn (W.alloc (.cells #[.string s, .bool false] 38)) g s false := heap_new_at hg
theorem OrdAt.below {w w' : World} {c : Nat} {o : Ord} (h : OrdAt w c o) (hf : Below w.heap.size w w') : OrdAt w' c o := h.fr (Fr.of_below (S := fun _ => False) hf) id
theorem OrdAt.new (w : World) (o : Ord) : OrdAt (w.alloc (.cells #[.int .i64 o.kind, .string o.key, .string o.val, .int .u64 o.n, .string o.lo, .string o.hi] 24)) w.heap.size o := heap_alloc_new w _
theorem ex_keep {w W W' : World} {b0 b1 : Nat} {k n : Int} {key val lo hi : ByteArray} (hb : Below w.heap.size w W) (h1 : OrdAt W b0 ⟨k, key, val, n, lo, hi⟩) (h2 : ROrdAt W b1 ⟨k, key, val, n, lo, hi⟩) (hf : Below W.heap.size W W') :
    Below w.heap.size w W' ∧ OrdAt W' b0 ⟨k, key, val, n, lo, hi⟩ ∧ ROrdAt W' b1 ⟨k, key, val, n, lo, hi⟩ ∧ W'.cell? ⟨b0, 0, none⟩ = some (.int .i64 k) ∧ W'.cell? ⟨b0, 1, none⟩ = some (.string key) ∧ W'.cell? ⟨b0, 2, none⟩ = some (.string val) ∧ W'.cell? ⟨b0, 3, none⟩ = some (.int .u64 n) ∧ W'.cell? ⟨b0, 4, none⟩ = some (.string lo) ∧ W'.cell? ⟨b0, 5, none⟩ = some (.string hi) ∧
    W'.cell? ⟨b1, 0, none⟩ = some (.int .i64 k) ∧ W'.cell? ⟨b1, 1, none⟩ = some (.string key) ∧ W'.cell? ⟨b1, 2, none⟩ = some (.string val) ∧ W'.cell? ⟨b1, 3, none⟩ = some (.int .u64 n) ∧ W'.cell? ⟨b1, 4, none⟩ = some (.string lo) ∧ W'.cell? ⟨b1, 5, none⟩ = some (.string hi) := by
  have h1 := h1.below hf
  have h2 := h2.below hf
  exact ⟨below_next hb hf, h1, h2, h1.c0, h1.c1, h1.c2, h1.c3, h1.c4, h1.c5, h2.c0, h2.c1, h2.c2, h2.c3, h2.c4, h2.c5⟩


set_option maxRecDepth 100000 in
theorem exact_long (k n : Int) (key val lo hi s : ByteArray) (w : World) (hL : longB ⟨k, key, val, n, lo, hi⟩ = true) : Calls Try.prog 3 #[.agg #[.int .i64 k, .string key, .string val, .int .u64 n, .string lo, .string hi], .string s] w fun e w' => e = .returned (.bool true) ∧ Below w.heap.size w w' := by
  have hz := OrdAt.new w ⟨k, key, val, n, lo, hi⟩
  have hb := Below.alloc (Below.refl w.heap.size w) (Nat.le_refl _) (.cells #[.int .i64 k, .string key, .string val, .int .u64 n, .string lo, .string hi] 24)
  have hlg : ∀ W, Calls Try.prog 10 #[(.agg #[.int .i64 k, .string key, .string val, .int .u64 n, .string lo, .string hi])] W fun e w' => e = .returned (.bool true) ∧ Below W.heap.size W w' := fun W => by have h := long_any ⟨k, key, val, n, lo, hi⟩ W; rw [hL] at h; exact h
  have Hlg := Lib.hid hlg
  clear hlg hL
  go_enter Try.func3, Try.ntmps3
  go_wp2_with (first | (go_at_call 9; (with_reducible refine (awake_any _).mono ?_); rintro e w1 ⟨rfl, hb1⟩; have hb := below_next hb hb1; have hz := hz.below hb1; have z0 := hz.c0; have z1 := hz.c1; have z2 := hz.c2; have z3 := hz.c3; have z4 := hz.c4; have z5 := hz.c5; have y0 := hz.f 0; have y1 := hz.f 1; have y2 := hz.f 2; have y3 := hz.f 3; have y4 := hz.f 4; have y5 := hz.f 5; clear hb1) | (go_at_call 10; (with_reducible refine (Hlg.out _).mono ?_); rintro e w2 ⟨rfl, hb2⟩; have hb := below_next hb hb2; have hz := hz.below hb2; have z0 := hz.c0; have z1 := hz.c1; have z2 := hz.c2; have z3 := hz.c3; have z4 := hz.c4; have z5 := hz.c5; have y0 := hz.f 0; have y1 := hz.f 1; have y2 := hz.f 2; have y3 := hz.f 3; have y4 := hz.f 4; have y5 := hz.f 5; clear hb2))
  go_ret
  exact ⟨rfl, hb⟩


set_option maxRecDepth 100000 in
theorem exact_much (k n : Int) (key val lo hi s : ByteArray) (w : World) (hL : longB ⟨k, key, val, n, lo, hi⟩ = false) (hs : 600 < (s.size : Int)) : Calls Try.prog 3 #[.agg #[.int .i64 k, .string key, .string val, .int .u64 n, .string lo, .string hi], .string s] w fun e w' => e = .returned (.bool true) ∧ Below w.heap.size w w' := by
  have hz := OrdAt.new w ⟨k, key, val, n, lo, hi⟩
  have hb := Below.alloc (Below.refl w.heap.size w) (Nat.le_refl _) (.cells #[.int .i64 k, .string key, .string val, .int .u64 n, .string lo, .string hi] 24)
  have hlg : ∀ W, Calls Try.prog 10 #[(.agg #[.int .i64 k, .string key, .string val, .int .u64 n, .string lo, .string hi])] W fun e w' => e = .returned (.bool false) ∧ Below W.heap.size W w' := fun W => by have h := long_any ⟨k, key, val, n, lo, hi⟩ W; rw [hL] at h; exact h
  have Hlg := Lib.hid hlg
  clear hlg hL
  go_enter Try.func3, Try.ntmps3
  go_wp2_with (first | (go_at_call 9; (with_reducible refine (awake_any _).mono ?_); rintro e w1 ⟨rfl, hb1⟩; have hb := below_next hb hb1; have hz := hz.below hb1; have z0 := hz.c0; have z1 := hz.c1; have z2 := hz.c2; have z3 := hz.c3; have z4 := hz.c4; have z5 := hz.c5; have y0 := hz.f 0; have y1 := hz.f 1; have y2 := hz.f 2; have y3 := hz.f 3; have y4 := hz.f 4; have y5 := hz.f 5; clear hb1) | (go_at_call 10; (with_reducible refine (Hlg.out _).mono ?_); rintro e w2 ⟨rfl, hb2⟩; have hb := below_next hb hb2; have hz := hz.below hb2; have z0 := hz.c0; have z1 := hz.c1; have z2 := hz.c2; have z3 := hz.c3; have z4 := hz.c4; have z5 := hz.c5; have y0 := hz.f 0; have y1 := hz.f 1; have y2 := hz.f 2; have y3 := hz.f 3; have y4 := hz.f 4; have y5 := hz.f 5; clear hb2))
  go_ret
  exact ⟨rfl, hb⟩

set_option maxHeartbeats 1000000 in
set_option maxRecDepth 100000 in
theorem exact_true (k n : Int) (key val lo hi s : ByteArray) (w : World) (hf : Ord.fits ⟨k, key, val, n, lo, hi⟩) (hL : longB ⟨k, key, val, n, lo, hi⟩ = false) (hs : (s.size : Int) ≤ 600) (ho : isOrd ⟨k, key, val, n, lo, hi⟩ = true) : Calls Try.prog 3 #[.agg #[.int .i64 k, .string key, .string val, .int .u64 n, .string lo, .string hi], .string s] w fun e w' => e = .returned (.bool true) ∧ Below w.heap.size w w' := by
  have hz := OrdAt.new w ⟨k, key, val, n, lo, hi⟩
  have hb := Below.alloc (Below.refl w.heap.size w) (Nat.le_refl _) (.cells #[.int .i64 k, .string key, .string val, .int .u64 n, .string lo, .string hi] 24)
  have hlg : ∀ W, Calls Try.prog 10 #[(.agg #[.int .i64 k, .string key, .string val, .int .u64 n, .string lo, .string hi])] W fun e w' => e = .returned (.bool false) ∧ Below W.heap.size W w' := fun W => by have h := long_any ⟨k, key, val, n, lo, hi⟩ W; rw [hL] at h; exact h
  have Hlg := Lib.hid hlg
  clear hlg hL
  have hfm : ∀ W, Calls Try.prog 11 #[(.agg #[.int .i64 k, .string key, .string val, .int .u64 n, .string lo, .string hi])] W fun e w' => e = .returned (.agg #[.int .i64 k, .string key, .string val, .int .u64 n, .string lo, .string hi]) ∧ Below W.heap.size W w' := fun W => form_any ⟨k, key, val, n, lo, hi⟩ W
  have hby : ∀ W g, W.heap.size = g → Calls Try.prog 12 #[.slice (some ⟨g, 0, none⟩) 1 1] (W.alloc (.cells #[.int .i64 k, .string key, .string val, .int .u64 n, .string lo, .string hi] 24)) fun e w' => e = .returned (.tuple #[.string ⟨(ordBytes ⟨k, key, val, n, lo, hi⟩).toArray⟩, .int .i64 0]) ∧ Below W.heap.size W w' := fun W g hg => by
    have h := bytes_one ⟨k, key, val, n, lo, hi⟩ W g hg hf
    rw [show bytesAll [⟨k, key, val, n, lo, hi⟩] = (⟨(ordBytes ⟨k, key, val, n, lo, hi⟩).toArray⟩, 0) by simp [bytesAll, ho]] at h
    exact h
  have his : ∀ W, Calls Try.prog 13 #[(.agg #[.int .i64 k, .string key, .string val, .int .u64 n, .string lo, .string hi])] W fun e w' => e = .returned (.bool true) ∧ Below W.heap.size W w' := fun W => by have h := is_any ⟨k, key, val, n, lo, hi⟩ W; rw [ho] at h; exact h
  have hri : ∀ W, Calls Try.prog 14 #[(.agg #[.int .i64 k, .string key, .string val, .int .u64 n, .string lo, .string hi])] W fun e w' => e = .returned (.bool true) ∧ Below W.heap.size W w' := fun W => by have h := refIs_any ⟨k, key, val, n, lo, hi⟩ W; rw [ho] at h; exact h
  have hrb : ∀ W, Calls Try.prog 15 #[(.agg #[.int .i64 k, .string key, .string val, .int .u64 n, .string lo, .string hi])] W fun e w' => e = .returned (.string ⟨(ordBytes ⟨k, key, val, n, lo, hi⟩).toArray⟩) ∧ Below W.heap.size W w' := fun W => refBytes_any ⟨k, key, val, n, lo, hi⟩ W ho hf
  generalize (⟨(ordBytes ⟨k, key, val, n, lo, hi⟩).toArray⟩ : ByteArray) = BY at hby hrb
  have hpr := fun W => parse_any s W
  have hrd := fun b W h => refRead_any b s false W h
  unfold ReadRes at hrd
  have hPR : parseR s = if readIs s false = true ∧ (readR s false).2.1.size = 0 then ((readR s false).1, 0) else (ord0 0, 5) := rfl
  generalize readR s false = R at hrd hPR
  generalize readIs s false = I at hrd hPR
  generalize parseR s = P at hPR hpr
  obtain ⟨⟨pk, pkey, pval, pn, plo, phi⟩, pe⟩ := P
  obtain ⟨⟨rk, rkey, rval, rn, rlo, rhi⟩, rs, rb⟩ := R
  simp only [Ord.v_def] at hrd hpr
  have heq0 : ∀ W : World, (binOp .eql 24 (.agg #[.int .i64 0, .string ⟨#[]⟩, .string ⟨#[]⟩, .int .u64 0, .string ⟨#[]⟩, .string ⟨#[]⟩]) (.agg #[.int .i64 0, .string ⟨#[]⟩, .string ⟨#[]⟩, .int .u64 0, .string ⟨#[]⟩, .string ⟨#[]⟩])).run Try.prog W = .ok (.bool true) W := fun W => (eql_ord (ord0 0) (ord0 0) W).trans (by simp)
  have heq1 : ∀ W : World, (binOp .eql 27 (.agg #[.int .i64 rk, .string rkey, .string rval, .int .u64 rn, .string rlo, .string rhi]) (.agg #[.int .i64 rk, .string rkey, .string rval, .int .u64 rn, .string rlo, .string rhi])).run Try.prog W = .ok (.bool true) W := fun W => (eql_ref ⟨rk, rkey, rval, rn, rlo, rhi⟩ ⟨rk, rkey, rval, rn, rlo, rhi⟩ W).trans (by simp)
  have hfr : ∀ W, Calls Try.prog 11 #[(.agg #[.int .i64 rk, .string rkey, .string rval, .int .u64 rn, .string rlo, .string rhi])] W fun e w' => e = .returned (.agg #[.int .i64 rk, .string rkey, .string rval, .int .u64 rn, .string rlo, .string rhi]) ∧ Below W.heap.size W w' := fun W => form_any ⟨rk, rkey, rval, rn, rlo, rhi⟩ W
  have hgu : Try.prog.eqGuardType Try.prog.depth 24 = false := by kernel_rfl
  have hgr : Try.prog.eqGuardType Try.prog.depth 27 = false := by kernel_rfl
  have Hfm := Lib.hid hfm
  have Hby := Lib.hid hby
  have His := Lib.hid his
  have Hri := Lib.hid hri
  have Hrb := Lib.hid hrb
  have Hpr := Lib.hid hpr
  have Hrd := Lib.hid hrd
  have Hfr := Lib.hid hfr
  have HPR := Lib.hid hPR
  clear hf ho hfm hby his hri hrb hpr hrd hfr hPR
  go_enter Try.func3, Try.ntmps3
  go_wp2_with (first | (go_at_call 9; (with_reducible refine (awake_any _).mono ?_); rintro e w1 ⟨rfl, hb1⟩; have hb := below_next hb hb1; have hz := hz.below hb1; have z0 := hz.c0; have z1 := hz.c1; have z2 := hz.c2; have z3 := hz.c3; have z4 := hz.c4; have z5 := hz.c5; have y0 := hz.f 0; have y1 := hz.f 1; have y2 := hz.f 2; have y3 := hz.f 3; have y4 := hz.f 4; have y5 := hz.f 5; clear hb1) | (go_at_call 10; (with_reducible refine (Hlg.out _).mono ?_); rintro e w2 ⟨rfl, hb2⟩; have hb := below_next hb hb2; have hz := hz.below hb2; have z0 := hz.c0; have z1 := hz.c1; have z2 := hz.c2; have z3 := hz.c3; have z4 := hz.c4; have z5 := hz.c5; have y0 := hz.f 0; have y1 := hz.f 1; have y2 := hz.f 2; have y3 := hz.f 3; have y4 := hz.f 4; have y5 := hz.f 5; clear hb2) | (go_at_call 11; (with_reducible refine (Hfm.out _).mono ?_); rintro e w3 ⟨rfl, hb3⟩; have hb := below_next hb hb3; have hz := hz.below hb3; have z0 := hz.c0; have z1 := hz.c1; have z2 := hz.c2; have z3 := hz.c3; have z4 := hz.c4; have z5 := hz.c5; have y0 := hz.f 0; have y1 := hz.f 1; have y2 := hz.f 2; have y3 := hz.f 3; have y4 := hz.f 4; have y5 := hz.f 5; have hz1 := hz.below (below_alloc (o := (.cells #[.int .i64 k, .string key, .string val, .int .u64 n, .string lo, .string hi] 27)) (Below.refl _ w3)); have z0 := hz1.c0; have z1 := hz1.c1; have z2 := hz1.c2; have z3 := hz1.c3; have z4 := hz1.c4; have z5 := hz1.c5; have y0 := hz1.f 0; have y1 := hz1.f 1; have y2 := hz1.f 2; have y3 := hz1.f 3; have y4 := hz1.f 4; have y5 := hz1.f 5; clear hb3) | (go_at_call 12; (with_reducible refine (Hby.out _ _ ?_).mono ?_); (first | exact rfl | simp); rintro e w4 ⟨rfl, hb4⟩; have hu := (ROrdAt.new w3 ⟨k, key, val, n, lo, hi⟩).below hb4; have hb4 := below_next (below_alloc (Below.refl _ w3)) hb4; have hb := below_next hb hb4; have hz := hz.below hb4))
  have z0 := hz.c0; have z1 := hz.c1; have z2 := hz.c2; have z3 := hz.c3; have z4 := hz.c4; have z5 := hz.c5; have y0 := hz.f 0; have y1 := hz.f 1; have y2 := hz.f 2; have y3 := hz.f 3; have y4 := hz.f 4; have y5 := hz.f 5
  have u0 := hu.c0; have u1 := hu.c1; have u2 := hu.c2; have u3 := hu.c3; have u4 := hu.c4; have u5 := hu.c5
  refine rg_start (n := 32) (fun w' => Below w.heap.size w w' ∧ OrdAt w' w.heap.size ⟨k, key, val, n, lo, hi⟩ ∧ ROrdAt w' w3.heap.size ⟨k, key, val, n, lo, hi⟩ ∧ w'.cell? ⟨w.heap.size, 0, none⟩ = some (.int .i64 k) ∧ w'.cell? ⟨w.heap.size, 1, none⟩ = some (.string key) ∧ w'.cell? ⟨w.heap.size, 2, none⟩ = some (.string val) ∧ w'.cell? ⟨w.heap.size, 3, none⟩ = some (.int .u64 n) ∧ w'.cell? ⟨w.heap.size, 4, none⟩ = some (.string lo) ∧ w'.cell? ⟨w.heap.size, 5, none⟩ = some (.string hi) ∧ w'.cell? ⟨w3.heap.size, 0, none⟩ = some (.int .i64 k) ∧ w'.cell? ⟨w3.heap.size, 1, none⟩ = some (.string key) ∧ w'.cell? ⟨w3.heap.size, 2, none⟩ = some (.string val) ∧ w'.cell? ⟨w3.heap.size, 3, none⟩ = some (.int .u64 n) ∧ w'.cell? ⟨w3.heap.size, 4, none⟩ = some (.string lo) ∧ w'.cell? ⟨w3.heap.size, 5, none⟩ = some (.string hi)) #[false, false, false, false, false, false, false, false, false, false, false, false, false, false, false, false, false, false, false, false, false, false, false, false, false, false, false, false, false, false, false, false] (by kernel_rfl) rfl rfl ⟨hb.drew, hz, hu, z0, z1, z2, z3, z4, z5, u0, u1, u2, u3, u4, u5⟩ (fun hHeld => ?_)
  refine rg_take (i := 0) (N := (some 30)) (v := ?_) (a' := ?_) #[true, false, false, false, false, false, false, false, false, false, false, false, false, false, false, false, false, false, false, false, false, false, false, false, false, false, false, false, false, false, false, false] rfl rfl (by kernel_rfl) (fun _ _ _ h => h) (by rfl) ?_ hHeld ?_ ?_
  rotate_left 2
  · rintro w' ⟨s0, s1, s2, s3, s4, s5, s6, s7, s8, s9, s10, s11, s12, s13, s14⟩
    go_simp
    try with_reducible rfl
  · simp only [Act.put, List.setIfInBounds_toArray, List.set_cons_zero, List.set_cons_succ]
    rfl
  refine rg_take (i := 2) (N := (some 32)) (v := ?_) (a' := ?_) #[true, false, true, false, false, false, false, false, false, false, false, false, false, false, false, false, false, false, false, false, false, false, false, false, false, false, false, false, false, false, false, false] rfl rfl (by kernel_rfl) (fun _ _ _ h => h) (by rfl) ?_ hHeld ?_ ?_
  rotate_left 2
  · rintro w' ⟨s0, s1, s2, s3, s4, s5, s6, s7, s8, s9, s10, s11, s12, s13, s14⟩
    go_simp
    try with_reducible rfl
  · simp only [Act.put, List.setIfInBounds_toArray, List.set_cons_zero, List.set_cons_succ]
    rfl
  refine rg_one (i := 1) #[true, true, true, false, false, false, false, false, false, false, false, false, false, false, false, false, false, false, false, false, false, false, false, false, false, false, false, false, false, false, false, false] rfl (by kernel_rfl) (by rfl) (fun K hK => ?_)
  obtain ⟨s0, s1, s2, s3, s4, s5, s6, s7, s8, s9, s10, s11, s12, s13, s14⟩ := hHeld
  repeat go_step
  ((with_reducible refine (His.out _).mono ?_); rintro e w9 ⟨rfl, hb9⟩)
  try dsimp only
  refine hK.out _ _ ?_ (fun hHeld => ?_)
  · exact ex_keep s0 s1 s2 hb9
  clear hK K
  clear s0 s1 s2 s3 s4 s5 s6 s7 s8 s9 s10 s11 s12 s13 s14
  refine rg_one (i := 3) #[true, true, true, true, false, false, false, false, false, false, false, false, false, false, false, false, false, false, false, false, false, false, false, false, false, false, false, false, false, false, false, false] rfl (by kernel_rfl) (by rfl) (fun K hK => ?_)
  obtain ⟨s0, s1, s2, s3, s4, s5, s6, s7, s8, s9, s10, s11, s12, s13, s14⟩ := hHeld
  repeat go_step
  ((with_reducible refine (Hri.out _).mono ?_); rintro e w9 ⟨rfl, hb9⟩)
  try dsimp only
  refine hK.out _ _ ?_ (fun hHeld => ?_)
  · exact ex_keep s0 s1 s2 hb9
  clear hK K
  clear s0 s1 s2 s3 s4 s5 s6 s7 s8 s9 s10 s11 s12 s13 s14
  refine rg_take (i := 4) (N := (some 34)) (v := ?_) (a' := ?_) #[true, true, true, true, true, false, false, false, false, false, false, false, false, false, false, false, false, false, false, false, false, false, false, false, false, false, false, false, false, false, false, false] rfl rfl (by kernel_rfl) (fun _ _ _ h => h) (by rfl) ?_ hHeld ?_ ?_
  rotate_left 2
  · rintro w' ⟨s0, s1, s2, s3, s4, s5, s6, s7, s8, s9, s10, s11, s12, s13, s14⟩
    go_simp
    try with_reducible rfl
  · simp only [Act.put, List.setIfInBounds_toArray, List.set_cons_zero, List.set_cons_succ]
    rfl
  refine rg_take (i := 5) (N := (some 35)) (v := ?_) (a' := ?_) #[true, true, true, true, true, true, false, false, false, false, false, false, false, false, false, false, false, false, false, false, false, false, false, false, false, false, false, false, false, false, false, false] rfl rfl (by kernel_rfl) (fun _ _ _ h => h) (by rfl) ?_ hHeld ?_ ?_
  rotate_left 2
  · rintro w' ⟨s0, s1, s2, s3, s4, s5, s6, s7, s8, s9, s10, s11, s12, s13, s14⟩
    go_simp
    try with_reducible rfl
  · simp only [Act.put, List.setIfInBounds_toArray, List.set_cons_zero, List.set_cons_succ]
    rfl
  refine rg_take (i := 6) (N := (some 36)) (v := ?_) (a' := ?_) #[true, true, true, true, true, true, true, false, false, false, false, false, false, false, false, false, false, false, false, false, false, false, false, false, false, false, false, false, false, false, false, false] rfl rfl (by kernel_rfl) (fun _ _ _ h => h) (by rfl) ?_ hHeld ?_ ?_
  rotate_left 2
  · rintro w' ⟨s0, s1, s2, s3, s4, s5, s6, s7, s8, s9, s10, s11, s12, s13, s14⟩
    go_simp
    try with_reducible rfl
  · simp only [Act.put, List.setIfInBounds_toArray, List.set_cons_zero, List.set_cons_succ]
    rfl
  refine rg_one (i := 7) #[true, true, true, true, true, true, true, true, false, false, false, false, false, false, false, false, false, false, false, false, false, false, false, false, false, false, false, false, false, false, false, false] rfl (by kernel_rfl) (by rfl) (fun K hK => ?_)
  obtain ⟨s0, s1, s2, s3, s4, s5, s6, s7, s8, s9, s10, s11, s12, s13, s14⟩ := hHeld
  repeat go_step
  ((with_reducible refine (Hri.out _).mono ?_); rintro e w9 ⟨rfl, hb9⟩)
  try dsimp only
  refine hK.out _ _ ?_ (fun hHeld => ?_)
  · exact ex_keep s0 s1 s2 hb9
  clear hK K
  clear s0 s1 s2 s3 s4 s5 s6 s7 s8 s9 s10 s11 s12 s13 s14
  refine rg_take (i := 8) (N := (some 38)) (v := ?_) (a' := ?_) #[true, true, true, true, true, true, true, true, true, false, false, false, false, false, false, false, false, false, false, false, false, false, false, false, false, false, false, false, false, false, false, false] rfl rfl (by kernel_rfl) (fun _ _ _ h => h) (by rfl) ?_ hHeld ?_ ?_
  rotate_left 2
  · rintro w' ⟨s0, s1, s2, s3, s4, s5, s6, s7, s8, s9, s10, s11, s12, s13, s14⟩
    go_simp
    try with_reducible rfl
  · simp only [Act.put, List.setIfInBounds_toArray, List.set_cons_zero, List.set_cons_succ]
    rfl
  refine rg_take (i := 9) (N := (some 39)) (v := ?_) (a' := ?_) #[true, true, true, true, true, true, true, true, true, true, false, false, false, false, false, false, false, false, false, false, false, false, false, false, false, false, false, false, false, false, false, false] rfl rfl (by kernel_rfl) (fun _ _ _ h => h) (by rfl) ?_ hHeld ?_ ?_
  rotate_left 2
  · rintro w' ⟨s0, s1, s2, s3, s4, s5, s6, s7, s8, s9, s10, s11, s12, s13, s14⟩
    go_simp
    try with_reducible rfl
  · simp only [Act.put, List.setIfInBounds_toArray, List.set_cons_zero, List.set_cons_succ]
    rfl
  refine rg_take (i := 10) (N := (some 40)) (v := ?_) (a' := ?_) #[true, true, true, true, true, true, true, true, true, true, true, false, false, false, false, false, false, false, false, false, false, false, false, false, false, false, false, false, false, false, false, false] rfl rfl (by kernel_rfl) (fun _ _ _ h => h) (by rfl) ?_ hHeld ?_ ?_
  rotate_left 2
  · rintro w' ⟨s0, s1, s2, s3, s4, s5, s6, s7, s8, s9, s10, s11, s12, s13, s14⟩
    go_simp
    try with_reducible rfl
  · simp only [Act.put, List.setIfInBounds_toArray, List.set_cons_zero, List.set_cons_succ]
    rfl
  refine rg_take (i := 11) (N := (some 41)) (v := ?_) (a' := ?_) #[true, true, true, true, true, true, true, true, true, true, true, true, false, false, false, false, false, false, false, false, false, false, false, false, false, false, false, false, false, false, false, false] rfl rfl (by kernel_rfl) (fun _ _ _ h => h) (by rfl) ?_ hHeld ?_ ?_
  rotate_left 2
  · rintro w' ⟨s0, s1, s2, s3, s4, s5, s6, s7, s8, s9, s10, s11, s12, s13, s14⟩
    go_simp
    try with_reducible rfl
  · simp only [Act.put, List.setIfInBounds_toArray, List.set_cons_zero, List.set_cons_succ]
    rfl
  refine rg_take (i := 12) (N := (some 42)) (v := ?_) (a' := ?_) #[true, true, true, true, true, true, true, true, true, true, true, true, true, false, false, false, false, false, false, false, false, false, false, false, false, false, false, false, false, false, false, false] rfl rfl (by kernel_rfl) (fun _ _ _ h => h) (by rfl) ?_ hHeld ?_ ?_
  rotate_left 2
  · rintro w' ⟨s0, s1, s2, s3, s4, s5, s6, s7, s8, s9, s10, s11, s12, s13, s14⟩
    go_simp
    try with_reducible rfl
  · simp only [Act.put, List.setIfInBounds_toArray, List.set_cons_zero, List.set_cons_succ]
    rfl
  refine rg_take (i := 13) (N := (some 43)) (v := ?_) (a' := ?_) #[true, true, true, true, true, true, true, true, true, true, true, true, true, true, false, false, false, false, false, false, false, false, false, false, false, false, false, false, false, false, false, false] rfl rfl (by kernel_rfl) (fun _ _ _ h => h) (by rfl) ?_ hHeld ?_ ?_
  rotate_left 2
  · rintro w' ⟨s0, s1, s2, s3, s4, s5, s6, s7, s8, s9, s10, s11, s12, s13, s14⟩
    go_simp
    try with_reducible rfl
  · simp only [Act.put, List.setIfInBounds_toArray, List.set_cons_zero, List.set_cons_succ]
    rfl
  refine rg_one (i := 14) #[true, true, true, true, true, true, true, true, true, true, true, true, true, true, true, false, false, false, false, false, false, false, false, false, false, false, false, false, false, false, false, false] rfl (by kernel_rfl) (by rfl) (fun K hK => ?_)
  obtain ⟨s0, s1, s2, s3, s4, s5, s6, s7, s8, s9, s10, s11, s12, s13, s14⟩ := hHeld
  repeat go_step
  ((with_reducible refine (Hrb.out _).mono ?_); rintro e w9 ⟨rfl, hb9⟩)
  try dsimp only
  refine hK.out _ _ ?_ (fun hHeld => ?_)
  · exact ex_keep s0 s1 s2 hb9
  clear hK K
  clear s0 s1 s2 s3 s4 s5 s6 s7 s8 s9 s10 s11 s12 s13 s14
  refine rg_take (i := 15) (N := (some 45)) (v := ?_) (a' := ?_) #[true, true, true, true, true, true, true, true, true, true, true, true, true, true, true, true, false, false, false, false, false, false, false, false, false, false, false, false, false, false, false, false] rfl rfl (by kernel_rfl) (fun _ _ _ h => h) (by rfl) ?_ hHeld ?_ ?_
  rotate_left 2
  · rintro w' ⟨s0, s1, s2, s3, s4, s5, s6, s7, s8, s9, s10, s11, s12, s13, s14⟩
    go_simp
    try with_reducible rfl
  · simp only [Act.put, List.setIfInBounds_toArray, List.set_cons_zero, List.set_cons_succ]
    rfl
  refine rg_take (i := 16) (N := (some 46)) (v := ?_) (a' := ?_) #[true, true, true, true, true, true, true, true, true, true, true, true, true, true, true, true, true, false, false, false, false, false, false, false, false, false, false, false, false, false, false, false] rfl rfl (by kernel_rfl) (fun _ _ _ h => h) (by rfl) ?_ hHeld ?_ ?_
  rotate_left 2
  · rintro w' ⟨s0, s1, s2, s3, s4, s5, s6, s7, s8, s9, s10, s11, s12, s13, s14⟩
    go_simp
    try with_reducible rfl
  · simp only [Act.put, List.setIfInBounds_toArray, List.set_cons_zero, List.set_cons_succ]
    rfl
  refine rg_take (i := 17) (N := (some 47)) (v := ?_) (a' := ?_) #[true, true, true, true, true, true, true, true, true, true, true, true, true, true, true, true, true, true, false, false, false, false, false, false, false, false, false, false, false, false, false, false] rfl rfl (by kernel_rfl) (fun _ _ _ h => h) (by rfl) ?_ hHeld ?_ ?_
  rotate_left 2
  · rintro w' ⟨s0, s1, s2, s3, s4, s5, s6, s7, s8, s9, s10, s11, s12, s13, s14⟩
    go_simp
    try with_reducible rfl
  · simp only [Act.put, List.setIfInBounds_toArray, List.set_cons_zero, List.set_cons_succ]
    rfl
  refine rg_take (i := 18) (N := (some 48)) (v := ?_) (a' := ?_) #[true, true, true, true, true, true, true, true, true, true, true, true, true, true, true, true, true, true, true, false, false, false, false, false, false, false, false, false, false, false, false, false] rfl rfl (by kernel_rfl) (fun _ _ _ h => h) (by rfl) ?_ hHeld ?_ ?_
  rotate_left 2
  · rintro w' ⟨s0, s1, s2, s3, s4, s5, s6, s7, s8, s9, s10, s11, s12, s13, s14⟩
    go_simp
    try with_reducible rfl
  · simp only [Act.put, List.setIfInBounds_toArray, List.set_cons_zero, List.set_cons_succ]
    rfl
  refine rg_take (i := 19) (N := (some 49)) (v := ?_) (a' := ?_) #[true, true, true, true, true, true, true, true, true, true, true, true, true, true, true, true, true, true, true, true, false, false, false, false, false, false, false, false, false, false, false, false] rfl rfl (by kernel_rfl) (fun _ _ _ h => h) (by rfl) ?_ hHeld ?_ ?_
  rotate_left 2
  · rintro w' ⟨s0, s1, s2, s3, s4, s5, s6, s7, s8, s9, s10, s11, s12, s13, s14⟩
    go_simp
    try with_reducible rfl
  · simp only [Act.put, List.setIfInBounds_toArray, List.set_cons_zero, List.set_cons_succ]
    rfl
  refine rg_take (i := 20) (N := (some 50)) (v := ?_) (a' := ?_) #[true, true, true, true, true, true, true, true, true, true, true, true, true, true, true, true, true, true, true, true, true, false, false, false, false, false, false, false, false, false, false, false] rfl rfl (by kernel_rfl) (fun _ _ _ h => h) (by rfl) ?_ hHeld ?_ ?_
  rotate_left 2
  · rintro w' ⟨s0, s1, s2, s3, s4, s5, s6, s7, s8, s9, s10, s11, s12, s13, s14⟩
    go_simp
    try with_reducible rfl
  · simp only [Act.put, List.setIfInBounds_toArray, List.set_cons_zero, List.set_cons_succ]
    rfl
  refine rg_one (i := 21) #[true, true, true, true, true, true, true, true, true, true, true, true, true, true, true, true, true, true, true, true, true, true, false, false, false, false, false, false, false, false, false, false] rfl (by kernel_rfl) (by rfl) (fun K hK => ?_)
  obtain ⟨s0, s1, s2, s3, s4, s5, s6, s7, s8, s9, s10, s11, s12, s13, s14⟩ := hHeld
  repeat go_step
  ((with_reducible refine (Hri.out _).mono ?_); rintro e w9 ⟨rfl, hb9⟩)
  try dsimp only
  refine hK.out _ _ ?_ (fun hHeld => ?_)
  · exact ex_keep s0 s1 s2 hb9
  clear hK K
  clear s0 s1 s2 s3 s4 s5 s6 s7 s8 s9 s10 s11 s12 s13 s14
  refine rg_take (i := 22) (N := (some 52)) (v := ?_) (a' := ?_) #[true, true, true, true, true, true, true, true, true, true, true, true, true, true, true, true, true, true, true, true, true, true, true, false, false, false, false, false, false, false, false, false] rfl rfl (by kernel_rfl) (fun _ _ _ h => h) (by rfl) ?_ hHeld ?_ ?_
  rotate_left 2
  · rintro w' ⟨s0, s1, s2, s3, s4, s5, s6, s7, s8, s9, s10, s11, s12, s13, s14⟩
    go_simp
    try with_reducible rfl
  · simp only [Act.put, List.setIfInBounds_toArray, List.set_cons_zero, List.set_cons_succ]
    rfl
  refine rg_take (i := 23) (N := (some 53)) (v := ?_) (a' := ?_) #[true, true, true, true, true, true, true, true, true, true, true, true, true, true, true, true, true, true, true, true, true, true, true, true, false, false, false, false, false, false, false, false] rfl rfl (by kernel_rfl) (fun _ _ _ h => h) (by rfl) ?_ hHeld ?_ ?_
  rotate_left 2
  · rintro w' ⟨s0, s1, s2, s3, s4, s5, s6, s7, s8, s9, s10, s11, s12, s13, s14⟩
    go_simp
    try with_reducible rfl
  · simp only [Act.put, List.setIfInBounds_toArray, List.set_cons_zero, List.set_cons_succ]
    rfl
  refine rg_skip (i := 24) (N := (some 54)) (a' := ?_) #[true, true, true, true, true, true, true, true, true, true, true, true, true, true, true, true, true, true, true, true, true, true, true, true, true, false, false, false, false, false, false, false] rfl rfl (by kernel_rfl) (fun _ _ _ h => h) (by rfl) hHeld ?_ ?_
  rotate_left
  · simp only [Act.put, List.setIfInBounds_toArray, List.set_cons_zero, List.set_cons_succ]
    rfl
  refine rg_skip (i := 25) (N := (some 55)) (a' := ?_) #[true, true, true, true, true, true, true, true, true, true, true, true, true, true, true, true, true, true, true, true, true, true, true, true, true, true, false, false, false, false, false, false] rfl rfl (by kernel_rfl) (fun _ _ _ h => h) (by rfl) hHeld ?_ ?_
  rotate_left
  · simp only [Act.put, List.setIfInBounds_toArray, List.set_cons_zero, List.set_cons_succ]
    rfl
  refine rg_skip (i := 26) (N := (some 56)) (a' := ?_) #[true, true, true, true, true, true, true, true, true, true, true, true, true, true, true, true, true, true, true, true, true, true, true, true, true, true, true, false, false, false, false, false] rfl rfl (by kernel_rfl) (fun _ _ _ h => h) (by rfl) hHeld ?_ ?_
  rotate_left
  · simp only [Act.put, List.setIfInBounds_toArray, List.set_cons_zero, List.set_cons_succ]
    rfl
  refine rg_skip (i := 27) (N := (some 57)) (a' := ?_) #[true, true, true, true, true, true, true, true, true, true, true, true, true, true, true, true, true, true, true, true, true, true, true, true, true, true, true, true, false, false, false, false] rfl rfl (by kernel_rfl) (fun _ _ _ h => h) (by rfl) hHeld ?_ ?_
  rotate_left
  · simp only [Act.put, List.setIfInBounds_toArray, List.set_cons_zero, List.set_cons_succ]
    rfl
  refine rg_skip (i := 28) (N := (some 58)) (a' := ?_) #[true, true, true, true, true, true, true, true, true, true, true, true, true, true, true, true, true, true, true, true, true, true, true, true, true, true, true, true, true, false, false, false] rfl rfl (by kernel_rfl) (fun _ _ _ h => h) (by rfl) hHeld ?_ ?_
  rotate_left
  · simp only [Act.put, List.setIfInBounds_toArray, List.set_cons_zero, List.set_cons_succ]
    rfl
  refine rg_skip (i := 29) (N := (some 59)) (a' := ?_) #[true, true, true, true, true, true, true, true, true, true, true, true, true, true, true, true, true, true, true, true, true, true, true, true, true, true, true, true, true, true, false, false] rfl rfl (by kernel_rfl) (fun _ _ _ h => h) (by rfl) hHeld ?_ ?_
  rotate_left
  · simp only [Act.put, List.setIfInBounds_toArray, List.set_cons_zero, List.set_cons_succ]
    rfl
  refine rg_take (i := 30) (N := (some 60)) (v := ?_) (a' := ?_) #[true, true, true, true, true, true, true, true, true, true, true, true, true, true, true, true, true, true, true, true, true, true, true, true, true, true, true, true, true, true, true, false] rfl rfl (by kernel_rfl) (fun _ _ _ h => h) (by rfl) ?_ hHeld ?_ ?_
  rotate_left 2
  · rintro w' ⟨s0, s1, s2, s3, s4, s5, s6, s7, s8, s9, s10, s11, s12, s13, s14⟩
    go_simp
    try with_reducible rfl
  · simp only [Act.put, List.setIfInBounds_toArray, List.set_cons_zero, List.set_cons_succ]
    rfl
  refine rg_take (i := 31) (N := (some 61)) (v := ?_) (a' := ?_) #[true, true, true, true, true, true, true, true, true, true, true, true, true, true, true, true, true, true, true, true, true, true, true, true, true, true, true, true, true, true, true, true] rfl rfl (by kernel_rfl) (fun _ _ _ h => h) (by rfl) ?_ hHeld ?_ ?_
  rotate_left 2
  · rintro w' ⟨s0, s1, s2, s3, s4, s5, s6, s7, s8, s9, s10, s11, s12, s13, s14⟩
    go_simp
    try with_reducible rfl
  · simp only [Act.put, List.setIfInBounds_toArray, List.set_cons_zero, List.set_cons_succ]
    rfl
  refine rg_done (by kernel_rfl) ?_
  obtain ⟨h0, h1, h2, _⟩ := hHeld
  all_goals clear Hfm Hby His Hri Hrb Hlg hb hz hu z0 z1 z2 z3 z4 z5 u0 u1 u2 u3 u4 u5 y0 y1 y2 y3 y4 y5
  all_goals cases I
  all_goals have hP := HPR.out
  all_goals clear HPR
  · simp [ord0] at hP
    obtain ⟨⟨rfl, rfl, rfl, rfl, rfl, rfl⟩, rfl⟩ := hP
    go_wp2_with (first | (go_at_call 16; (with_reducible refine (Hpr.out _).mono ?_); rintro e w6 ⟨rfl, hb6⟩; have hb := below_next h0 hb6) | (go_at_call 17; (with_reducible refine (Hrd.out _ _ (RIn.new_at _ _ _ (by simp))).mono ?_); rintro e w7 ⟨rfl, hi7, hfr7⟩; have hp := (OrdAt.fr ((OrdAt.new w6 ⟨0, ⟨#[]⟩, ⟨#[]⟩, 0, ⟨#[]⟩, ⟨#[]⟩⟩).fr ((Fr.refl (fun _ => False) _).alloc _) id) hfr7 (by omega)); have hb := (below_alloc (below_alloc hb)).trans (hfr7.to_below (by have := hb.size; simp; omega) (fun i hi e => by have := hb.size; omega)); have q0 := hi7.c0; have z0 := hp.c0; have z1 := hp.c1; have z2 := hp.c2; have z3 := hp.c3; have z4 := hp.c4; have z5 := hp.c5; have y0 := hp.f 0; have y1 := hp.f 1; have y2 := hp.f 2; have y3 := hp.f 3; have y4 := hp.f 4; have y5 := hp.f 5; have hp1 := hp.below (below_alloc (o := (.cells #[.int .i64 rk, .string rkey, .string rval, .int .u64 rn, .string rlo, .string rhi] 27)) (Below.refl _ w7)); have z0 := hp1.c0; have z1 := hp1.c1; have z2 := hp1.c2; have z3 := hp1.c3; have z4 := hp1.c4; have z5 := hp1.c5; have y0 := hp1.f 0; have y1 := hp1.f 1; have y2 := hp1.f 2; have y3 := hp1.f 3; have y4 := hp1.f 4; have y5 := hp1.f 5; have q1 := (hi7.below (below_alloc (o := (.cells #[.int .i64 rk, .string rkey, .string rval, .int .u64 rn, .string rlo, .string rhi] 27)) (Below.refl _ w7))).c0))
    go_ret
    exact ⟨rfl, below_alloc hb⟩
  · by_cases h7 : rs.size = 0
    · simp [h7] at hP
      obtain ⟨⟨rfl, rfl, rfl, rfl, rfl, rfl⟩, rfl⟩ := hP
      obtain rfl : rs = ⟨#[]⟩ := empty_of h7
      clear h7
      go_wp2_with (first | (go_at_call 16; (with_reducible refine (Hpr.out _).mono ?_); rintro e w6 ⟨rfl, hb6⟩; have hb := below_next h0 hb6) | (go_at_call 17; (with_reducible refine (Hrd.out _ _ (RIn.new_at _ _ _ (by simp))).mono ?_); rintro e w7 ⟨rfl, hi7, hfr7⟩; have hp := (OrdAt.fr ((OrdAt.new w6 ⟨pk, pkey, pval, pn, plo, phi⟩).fr ((Fr.refl (fun _ => False) _).alloc _) id) hfr7 (by omega)); have hb := (below_alloc (below_alloc hb)).trans (hfr7.to_below (by have := hb.size; simp; omega) (fun i hi e => by have := hb.size; omega)); have q0 := hi7.c0; have z0 := hp.c0; have z1 := hp.c1; have z2 := hp.c2; have z3 := hp.c3; have z4 := hp.c4; have z5 := hp.c5; have y0 := hp.f 0; have y1 := hp.f 1; have y2 := hp.f 2; have y3 := hp.f 3; have y4 := hp.f 4; have y5 := hp.f 5; have hp1 := hp.below (below_alloc (o := (.cells #[.int .i64 pk, .string pkey, .string pval, .int .u64 pn, .string plo, .string phi] 27)) (Below.refl _ w7)); have z0 := hp1.c0; have z1 := hp1.c1; have z2 := hp1.c2; have z3 := hp1.c3; have z4 := hp1.c4; have z5 := hp1.c5; have y0 := hp1.f 0; have y1 := hp1.f 1; have y2 := hp1.f 2; have y3 := hp1.f 3; have y4 := hp1.f 4; have y5 := hp1.f 5; have q1 := (hi7.below (below_alloc (o := (.cells #[.int .i64 pk, .string pkey, .string pval, .int .u64 pn, .string plo, .string phi] 27)) (Below.refl _ w7))).c0))
      have hu := ROrdAt.new w7 ⟨pk, pkey, pval, pn, plo, phi⟩
      have u0 := hu.c0; have u1 := hu.c1; have u2 := hu.c2; have u3 := hu.c3; have u4 := hu.c4; have u5 := hu.c5
      have hb := below_alloc (o := (.cells #[.int .i64 pk, .string pkey, .string pval, .int .u64 pn, .string plo, .string phi] 27)) hb
      refine rg_start (n := 9) (fun w' => Below w.heap.size w w' ∧ OrdAt w' w6.heap.size ⟨pk, pkey, pval, pn, plo, phi⟩ ∧ ROrdAt w' w7.heap.size ⟨pk, pkey, pval, pn, plo, phi⟩ ∧ w'.cell? ⟨w6.heap.size, 0, none⟩ = some (.int .i64 pk) ∧ w'.cell? ⟨w6.heap.size, 1, none⟩ = some (.string pkey) ∧ w'.cell? ⟨w6.heap.size, 2, none⟩ = some (.string pval) ∧ w'.cell? ⟨w6.heap.size, 3, none⟩ = some (.int .u64 pn) ∧ w'.cell? ⟨w6.heap.size, 4, none⟩ = some (.string plo) ∧ w'.cell? ⟨w6.heap.size, 5, none⟩ = some (.string phi) ∧ w'.cell? ⟨w7.heap.size, 0, none⟩ = some (.int .i64 pk) ∧ w'.cell? ⟨w7.heap.size, 1, none⟩ = some (.string pkey) ∧ w'.cell? ⟨w7.heap.size, 2, none⟩ = some (.string pval) ∧ w'.cell? ⟨w7.heap.size, 3, none⟩ = some (.int .u64 pn) ∧ w'.cell? ⟨w7.heap.size, 4, none⟩ = some (.string plo) ∧ w'.cell? ⟨w7.heap.size, 5, none⟩ = some (.string phi)) #[false, false, false, false, false, false, false, false, false] (by kernel_rfl) rfl rfl ⟨hb.drew, hp1, hu, z0, z1, z2, z3, z4, z5, u0, u1, u2, u3, u4, u5⟩ (fun hHeld => ?_)
      refine rg_take (i := 0) (N := (some 91)) (v := ?_) (a' := ?_) #[true, false, false, false, false, false, false, false, false] rfl rfl (by kernel_rfl) (fun _ _ _ h => h) (by rfl) ?_ hHeld ?_ ?_
      rotate_left 2
      · rintro w' ⟨s0, s1, s2, s3, s4, s5, s6, s7, s8, s9, s10, s11, s12, s13, s14⟩
        go_simp
        try with_reducible rfl
      · simp only [Act.put, List.setIfInBounds_toArray, List.set_cons_zero, List.set_cons_succ]
        rfl
      refine rg_take (i := 1) (N := (some 92)) (v := ?_) (a' := ?_) #[true, true, false, false, false, false, false, false, false] rfl rfl (by kernel_rfl) (fun _ _ _ h => h) (by rfl) ?_ hHeld ?_ ?_
      rotate_left 2
      · rintro w' ⟨s0, s1, s2, s3, s4, s5, s6, s7, s8, s9, s10, s11, s12, s13, s14⟩
        go_simp
        try with_reducible rfl
      · simp only [Act.put, List.setIfInBounds_toArray, List.set_cons_zero, List.set_cons_succ]
        rfl
      refine rg_take (i := 2) (N := (some 93)) (v := ?_) (a' := ?_) #[true, true, true, false, false, false, false, false, false] rfl rfl (by kernel_rfl) (fun _ _ _ h => h) (by rfl) ?_ hHeld ?_ ?_
      rotate_left 2
      · rintro w' ⟨s0, s1, s2, s3, s4, s5, s6, s7, s8, s9, s10, s11, s12, s13, s14⟩
        go_simp
        try with_reducible rfl
      · simp only [Act.put, List.setIfInBounds_toArray, List.set_cons_zero, List.set_cons_succ]
        rfl
      refine rg_take (i := 3) (N := (some 94)) (v := ?_) (a' := ?_) #[true, true, true, true, false, false, false, false, false] rfl rfl (by kernel_rfl) (fun _ _ _ h => h) (by rfl) ?_ hHeld ?_ ?_
      rotate_left 2
      · rintro w' ⟨s0, s1, s2, s3, s4, s5, s6, s7, s8, s9, s10, s11, s12, s13, s14⟩
        go_simp
        try with_reducible rfl
      · simp only [Act.put, List.setIfInBounds_toArray, List.set_cons_zero, List.set_cons_succ]
        rfl
      refine rg_take (i := 5) (N := (some 96)) (v := ?_) (a' := ?_) #[true, true, true, true, false, true, false, false, false] rfl rfl (by kernel_rfl) (fun _ _ _ h => h) (by rfl) ?_ hHeld ?_ ?_
      rotate_left 2
      · rintro w' ⟨s0, s1, s2, s3, s4, s5, s6, s7, s8, s9, s10, s11, s12, s13, s14⟩
        go_simp
        try with_reducible rfl
      · simp only [Act.put, List.setIfInBounds_toArray, List.set_cons_zero, List.set_cons_succ]
        rfl
      refine rg_one (i := 4) #[true, true, true, true, true, true, false, false, false] rfl (by kernel_rfl) (by rfl) (fun K hK => ?_)
      obtain ⟨s0, s1, s2, s3, s4, s5, s6, s7, s8, s9, s10, s11, s12, s13, s14⟩ := hHeld
      repeat go_step
      ((with_reducible refine (Hfr.out _).mono ?_); rintro e w9 ⟨rfl, hb9⟩)
      try dsimp only
      refine hK.out _ _ ?_ (fun hHeld => ?_)
      · exact ex_keep s0 s1 s2 hb9
      clear hK K
      clear s0 s1 s2 s3 s4 s5 s6 s7 s8 s9 s10 s11 s12 s13 s14
      refine rg_take (i := 6) (N := (some 97)) (v := ?_) (a' := ?_) #[true, true, true, true, true, true, true, false, false] rfl rfl (by kernel_rfl) (fun _ _ _ h => h) (by rfl) ?_ hHeld ?_ ?_
      rotate_left 2
      · rintro w' ⟨s0, s1, s2, s3, s4, s5, s6, s7, s8, s9, s10, s11, s12, s13, s14⟩
        go_simp
        try with_reducible rfl
      · simp only [Act.put, List.setIfInBounds_toArray, List.set_cons_zero, List.set_cons_succ]
        rfl
      refine rg_take (i := 7) (N := (some 98)) (v := ?_) (a' := ?_) #[true, true, true, true, true, true, true, true, false] rfl rfl (by kernel_rfl) (fun _ _ _ h => h) (by rfl) ?_ hHeld ?_ ?_
      rotate_left 2
      · rintro w' ⟨s0, s1, s2, s3, s4, s5, s6, s7, s8, s9, s10, s11, s12, s13, s14⟩
        go_simp
        try with_reducible rfl
      · simp only [Act.put, List.setIfInBounds_toArray, List.set_cons_zero, List.set_cons_succ]
        rfl
      refine rg_take (i := 8) (N := (some 4)) (v := ?_) (a' := ?_) #[true, true, true, true, true, true, true, true, true] rfl rfl (by kernel_rfl) (fun _ _ _ h => h) (by rfl) ?_ hHeld ?_ ?_
      rotate_left 2
      · rintro w' ⟨s0, s1, s2, s3, s4, s5, s6, s7, s8, s9, s10, s11, s12, s13, s14⟩
        go_simp
        try with_reducible rfl
      · simp only [Act.put, List.setIfInBounds_toArray, List.set_cons_zero, List.set_cons_succ]
        rfl
      refine rg_done (by kernel_rfl) ?_
      obtain ⟨h0, h1, h2, _⟩ := hHeld
      all_goals go_wp2
      all_goals go_ret
      all_goals exact ⟨rfl, h0⟩
    · simp [h7, ord0] at hP
      obtain ⟨⟨rfl, rfl, rfl, rfl, rfl, rfl⟩, rfl⟩ := hP
      have h8 : rs.toList.isEmpty = false := by
        rw [Bool.eq_false_iff, Ne, List.isEmpty_iff]
        intro h
        rw [← empty_iff] at h
        subst h
        exact h7 rfl
      clear h7
      go_wp2_with (first | (go_at_call 16; (with_reducible refine (Hpr.out _).mono ?_); rintro e w6 ⟨rfl, hb6⟩; have hb := below_next h0 hb6) | (go_at_call 17; (with_reducible refine (Hrd.out _ _ (RIn.new_at _ _ _ (by simp))).mono ?_); rintro e w7 ⟨rfl, hi7, hfr7⟩; have hp := (OrdAt.fr ((OrdAt.new w6 ⟨0, ⟨#[]⟩, ⟨#[]⟩, 0, ⟨#[]⟩, ⟨#[]⟩⟩).fr ((Fr.refl (fun _ => False) _).alloc _) id) hfr7 (by omega)); have hb := (below_alloc (below_alloc hb)).trans (hfr7.to_below (by have := hb.size; simp; omega) (fun i hi e => by have := hb.size; omega)); have q0 := hi7.c0; have z0 := hp.c0; have z1 := hp.c1; have z2 := hp.c2; have z3 := hp.c3; have z4 := hp.c4; have z5 := hp.c5; have y0 := hp.f 0; have y1 := hp.f 1; have y2 := hp.f 2; have y3 := hp.f 3; have y4 := hp.f 4; have y5 := hp.f 5; have hp1 := hp.below (below_alloc (o := (.cells #[.int .i64 rk, .string rkey, .string rval, .int .u64 rn, .string rlo, .string rhi] 27)) (Below.refl _ w7)); have z0 := hp1.c0; have z1 := hp1.c1; have z2 := hp1.c2; have z3 := hp1.c3; have z4 := hp1.c4; have z5 := hp1.c5; have y0 := hp1.f 0; have y1 := hp1.f 1; have y2 := hp1.f 2; have y3 := hp1.f 3; have y4 := hp1.f 4; have y5 := hp1.f 5; have q1 := (hi7.below (below_alloc (o := (.cells #[.int .i64 rk, .string rkey, .string rval, .int .u64 rn, .string rlo, .string rhi] 27)) (Below.refl _ w7))).c0))
      go_ret
      exact ⟨rfl, below_alloc hb⟩

set_option maxHeartbeats 1000000 in
set_option maxRecDepth 100000 in
theorem exact_false (k n : Int) (key val lo hi s : ByteArray) (w : World) (hf : Ord.fits ⟨k, key, val, n, lo, hi⟩) (hL : longB ⟨k, key, val, n, lo, hi⟩ = false) (hs : (s.size : Int) ≤ 600) (ho : isOrd ⟨k, key, val, n, lo, hi⟩ = false) : Calls Try.prog 3 #[.agg #[.int .i64 k, .string key, .string val, .int .u64 n, .string lo, .string hi], .string s] w fun e w' => e = .returned (.bool true) ∧ Below w.heap.size w w' := by
  have hz := OrdAt.new w ⟨k, key, val, n, lo, hi⟩
  have hb := Below.alloc (Below.refl w.heap.size w) (Nat.le_refl _) (.cells #[.int .i64 k, .string key, .string val, .int .u64 n, .string lo, .string hi] 24)
  have hlg : ∀ W, Calls Try.prog 10 #[(.agg #[.int .i64 k, .string key, .string val, .int .u64 n, .string lo, .string hi])] W fun e w' => e = .returned (.bool false) ∧ Below W.heap.size W w' := fun W => by have h := long_any ⟨k, key, val, n, lo, hi⟩ W; rw [hL] at h; exact h
  have Hlg := Lib.hid hlg
  clear hlg hL
  have hfm : ∀ W, Calls Try.prog 11 #[(.agg #[.int .i64 k, .string key, .string val, .int .u64 n, .string lo, .string hi])] W fun e w' => e = .returned (.agg #[.int .i64 k, .string key, .string val, .int .u64 n, .string lo, .string hi]) ∧ Below W.heap.size W w' := fun W => form_any ⟨k, key, val, n, lo, hi⟩ W
  have hby : ∀ W g, W.heap.size = g → Calls Try.prog 12 #[.slice (some ⟨g, 0, none⟩) 1 1] (W.alloc (.cells #[.int .i64 k, .string key, .string val, .int .u64 n, .string lo, .string hi] 24)) fun e w' => e = .returned (.tuple #[.string ⟨#[]⟩, .int .i64 1]) ∧ Below W.heap.size W w' := fun W g hg => by
    have h := bytes_one ⟨k, key, val, n, lo, hi⟩ W g hg hf
    rw [show bytesAll [⟨k, key, val, n, lo, hi⟩] = (⟨#[]⟩, 1) by simp [bytesAll, ho]] at h
    exact h
  have his : ∀ W, Calls Try.prog 13 #[(.agg #[.int .i64 k, .string key, .string val, .int .u64 n, .string lo, .string hi])] W fun e w' => e = .returned (.bool false) ∧ Below W.heap.size W w' := fun W => by have h := is_any ⟨k, key, val, n, lo, hi⟩ W; rw [ho] at h; exact h
  have hri : ∀ W, Calls Try.prog 14 #[(.agg #[.int .i64 k, .string key, .string val, .int .u64 n, .string lo, .string hi])] W fun e w' => e = .returned (.bool false) ∧ Below W.heap.size W w' := fun W => by have h := refIs_any ⟨k, key, val, n, lo, hi⟩ W; rw [ho] at h; exact h
  have hpr := fun W => parse_any s W
  have hrd := fun b W h => refRead_any b s false W h
  unfold ReadRes at hrd
  have hPR : parseR s = if readIs s false = true ∧ (readR s false).2.1.size = 0 then ((readR s false).1, 0) else (ord0 0, 5) := rfl
  generalize readR s false = R at hrd hPR
  generalize readIs s false = I at hrd hPR
  generalize parseR s = P at hPR hpr
  obtain ⟨⟨pk, pkey, pval, pn, plo, phi⟩, pe⟩ := P
  obtain ⟨⟨rk, rkey, rval, rn, rlo, rhi⟩, rs, rb⟩ := R
  simp only [Ord.v_def] at hrd hpr
  have heq0 : ∀ W : World, (binOp .eql 24 (.agg #[.int .i64 0, .string ⟨#[]⟩, .string ⟨#[]⟩, .int .u64 0, .string ⟨#[]⟩, .string ⟨#[]⟩]) (.agg #[.int .i64 0, .string ⟨#[]⟩, .string ⟨#[]⟩, .int .u64 0, .string ⟨#[]⟩, .string ⟨#[]⟩])).run Try.prog W = .ok (.bool true) W := fun W => (eql_ord (ord0 0) (ord0 0) W).trans (by simp)
  have heq1 : ∀ W : World, (binOp .eql 27 (.agg #[.int .i64 rk, .string rkey, .string rval, .int .u64 rn, .string rlo, .string rhi]) (.agg #[.int .i64 rk, .string rkey, .string rval, .int .u64 rn, .string rlo, .string rhi])).run Try.prog W = .ok (.bool true) W := fun W => (eql_ref ⟨rk, rkey, rval, rn, rlo, rhi⟩ ⟨rk, rkey, rval, rn, rlo, rhi⟩ W).trans (by simp)
  have hfr : ∀ W, Calls Try.prog 11 #[(.agg #[.int .i64 rk, .string rkey, .string rval, .int .u64 rn, .string rlo, .string rhi])] W fun e w' => e = .returned (.agg #[.int .i64 rk, .string rkey, .string rval, .int .u64 rn, .string rlo, .string rhi]) ∧ Below W.heap.size W w' := fun W => form_any ⟨rk, rkey, rval, rn, rlo, rhi⟩ W
  have hgu : Try.prog.eqGuardType Try.prog.depth 24 = false := by kernel_rfl
  have hgr : Try.prog.eqGuardType Try.prog.depth 27 = false := by kernel_rfl
  have Hfm := Lib.hid hfm
  have Hby := Lib.hid hby
  have His := Lib.hid his
  have Hri := Lib.hid hri
  have Hpr := Lib.hid hpr
  have Hrd := Lib.hid hrd
  have Hfr := Lib.hid hfr
  have HPR := Lib.hid hPR
  clear hf ho hfm hby his hri hpr hrd hfr hPR
  go_enter Try.func3, Try.ntmps3
  go_wp2_with (first | (go_at_call 9; (with_reducible refine (awake_any _).mono ?_); rintro e w1 ⟨rfl, hb1⟩; have hb := below_next hb hb1; have hz := hz.below hb1; have z0 := hz.c0; have z1 := hz.c1; have z2 := hz.c2; have z3 := hz.c3; have z4 := hz.c4; have z5 := hz.c5; have y0 := hz.f 0; have y1 := hz.f 1; have y2 := hz.f 2; have y3 := hz.f 3; have y4 := hz.f 4; have y5 := hz.f 5; clear hb1) | (go_at_call 10; (with_reducible refine (Hlg.out _).mono ?_); rintro e w2 ⟨rfl, hb2⟩; have hb := below_next hb hb2; have hz := hz.below hb2; have z0 := hz.c0; have z1 := hz.c1; have z2 := hz.c2; have z3 := hz.c3; have z4 := hz.c4; have z5 := hz.c5; have y0 := hz.f 0; have y1 := hz.f 1; have y2 := hz.f 2; have y3 := hz.f 3; have y4 := hz.f 4; have y5 := hz.f 5; clear hb2) | (go_at_call 11; (with_reducible refine (Hfm.out _).mono ?_); rintro e w3 ⟨rfl, hb3⟩; have hb := below_next hb hb3; have hz := hz.below hb3; have z0 := hz.c0; have z1 := hz.c1; have z2 := hz.c2; have z3 := hz.c3; have z4 := hz.c4; have z5 := hz.c5; have y0 := hz.f 0; have y1 := hz.f 1; have y2 := hz.f 2; have y3 := hz.f 3; have y4 := hz.f 4; have y5 := hz.f 5; have hz1 := hz.below (below_alloc (o := (.cells #[.int .i64 k, .string key, .string val, .int .u64 n, .string lo, .string hi] 27)) (Below.refl _ w3)); have z0 := hz1.c0; have z1 := hz1.c1; have z2 := hz1.c2; have z3 := hz1.c3; have z4 := hz1.c4; have z5 := hz1.c5; have y0 := hz1.f 0; have y1 := hz1.f 1; have y2 := hz1.f 2; have y3 := hz1.f 3; have y4 := hz1.f 4; have y5 := hz1.f 5; clear hb3) | (go_at_call 12; (with_reducible refine (Hby.out _ _ ?_).mono ?_); (first | exact rfl | simp); rintro e w4 ⟨rfl, hb4⟩; have hu := (ROrdAt.new w3 ⟨k, key, val, n, lo, hi⟩).below hb4; have hb4 := below_next (below_alloc (Below.refl _ w3)) hb4; have hb := below_next hb hb4; have hz := hz.below hb4))
  have z0 := hz.c0; have z1 := hz.c1; have z2 := hz.c2; have z3 := hz.c3; have z4 := hz.c4; have z5 := hz.c5; have y0 := hz.f 0; have y1 := hz.f 1; have y2 := hz.f 2; have y3 := hz.f 3; have y4 := hz.f 4; have y5 := hz.f 5
  have u0 := hu.c0; have u1 := hu.c1; have u2 := hu.c2; have u3 := hu.c3; have u4 := hu.c4; have u5 := hu.c5
  refine rg_start (n := 32) (fun w' => Below w.heap.size w w' ∧ OrdAt w' w.heap.size ⟨k, key, val, n, lo, hi⟩ ∧ ROrdAt w' w3.heap.size ⟨k, key, val, n, lo, hi⟩ ∧ w'.cell? ⟨w.heap.size, 0, none⟩ = some (.int .i64 k) ∧ w'.cell? ⟨w.heap.size, 1, none⟩ = some (.string key) ∧ w'.cell? ⟨w.heap.size, 2, none⟩ = some (.string val) ∧ w'.cell? ⟨w.heap.size, 3, none⟩ = some (.int .u64 n) ∧ w'.cell? ⟨w.heap.size, 4, none⟩ = some (.string lo) ∧ w'.cell? ⟨w.heap.size, 5, none⟩ = some (.string hi) ∧ w'.cell? ⟨w3.heap.size, 0, none⟩ = some (.int .i64 k) ∧ w'.cell? ⟨w3.heap.size, 1, none⟩ = some (.string key) ∧ w'.cell? ⟨w3.heap.size, 2, none⟩ = some (.string val) ∧ w'.cell? ⟨w3.heap.size, 3, none⟩ = some (.int .u64 n) ∧ w'.cell? ⟨w3.heap.size, 4, none⟩ = some (.string lo) ∧ w'.cell? ⟨w3.heap.size, 5, none⟩ = some (.string hi)) #[false, false, false, false, false, false, false, false, false, false, false, false, false, false, false, false, false, false, false, false, false, false, false, false, false, false, false, false, false, false, false, false] (by kernel_rfl) rfl rfl ⟨hb.drew, hz, hu, z0, z1, z2, z3, z4, z5, u0, u1, u2, u3, u4, u5⟩ (fun hHeld => ?_)
  refine rg_take (i := 0) (N := (some 30)) (v := ?_) (a' := ?_) #[true, false, false, false, false, false, false, false, false, false, false, false, false, false, false, false, false, false, false, false, false, false, false, false, false, false, false, false, false, false, false, false] rfl rfl (by kernel_rfl) (fun _ _ _ h => h) (by rfl) ?_ hHeld ?_ ?_
  rotate_left 2
  · rintro w' ⟨s0, s1, s2, s3, s4, s5, s6, s7, s8, s9, s10, s11, s12, s13, s14⟩
    go_simp
    try with_reducible rfl
  · simp only [Act.put, List.setIfInBounds_toArray, List.set_cons_zero, List.set_cons_succ]
    rfl
  refine rg_take (i := 2) (N := (some 32)) (v := ?_) (a' := ?_) #[true, false, true, false, false, false, false, false, false, false, false, false, false, false, false, false, false, false, false, false, false, false, false, false, false, false, false, false, false, false, false, false] rfl rfl (by kernel_rfl) (fun _ _ _ h => h) (by rfl) ?_ hHeld ?_ ?_
  rotate_left 2
  · rintro w' ⟨s0, s1, s2, s3, s4, s5, s6, s7, s8, s9, s10, s11, s12, s13, s14⟩
    go_simp
    try with_reducible rfl
  · simp only [Act.put, List.setIfInBounds_toArray, List.set_cons_zero, List.set_cons_succ]
    rfl
  refine rg_one (i := 1) #[true, true, true, false, false, false, false, false, false, false, false, false, false, false, false, false, false, false, false, false, false, false, false, false, false, false, false, false, false, false, false, false] rfl (by kernel_rfl) (by rfl) (fun K hK => ?_)
  obtain ⟨s0, s1, s2, s3, s4, s5, s6, s7, s8, s9, s10, s11, s12, s13, s14⟩ := hHeld
  repeat go_step
  ((with_reducible refine (His.out _).mono ?_); rintro e w9 ⟨rfl, hb9⟩)
  try dsimp only
  refine hK.out _ _ ?_ (fun hHeld => ?_)
  · exact ex_keep s0 s1 s2 hb9
  clear hK K
  clear s0 s1 s2 s3 s4 s5 s6 s7 s8 s9 s10 s11 s12 s13 s14
  refine rg_one (i := 3) #[true, true, true, true, false, false, false, false, false, false, false, false, false, false, false, false, false, false, false, false, false, false, false, false, false, false, false, false, false, false, false, false] rfl (by kernel_rfl) (by rfl) (fun K hK => ?_)
  obtain ⟨s0, s1, s2, s3, s4, s5, s6, s7, s8, s9, s10, s11, s12, s13, s14⟩ := hHeld
  repeat go_step
  ((with_reducible refine (Hri.out _).mono ?_); rintro e w9 ⟨rfl, hb9⟩)
  try dsimp only
  refine hK.out _ _ ?_ (fun hHeld => ?_)
  · exact ex_keep s0 s1 s2 hb9
  clear hK K
  clear s0 s1 s2 s3 s4 s5 s6 s7 s8 s9 s10 s11 s12 s13 s14
  refine rg_take (i := 4) (N := (some 34)) (v := ?_) (a' := ?_) #[true, true, true, true, true, false, false, false, false, false, false, false, false, false, false, false, false, false, false, false, false, false, false, false, false, false, false, false, false, false, false, false] rfl rfl (by kernel_rfl) (fun _ _ _ h => h) (by rfl) ?_ hHeld ?_ ?_
  rotate_left 2
  · rintro w' ⟨s0, s1, s2, s3, s4, s5, s6, s7, s8, s9, s10, s11, s12, s13, s14⟩
    go_simp
    try with_reducible rfl
  · simp only [Act.put, List.setIfInBounds_toArray, List.set_cons_zero, List.set_cons_succ]
    rfl
  refine rg_take (i := 5) (N := (some 35)) (v := ?_) (a' := ?_) #[true, true, true, true, true, true, false, false, false, false, false, false, false, false, false, false, false, false, false, false, false, false, false, false, false, false, false, false, false, false, false, false] rfl rfl (by kernel_rfl) (fun _ _ _ h => h) (by rfl) ?_ hHeld ?_ ?_
  rotate_left 2
  · rintro w' ⟨s0, s1, s2, s3, s4, s5, s6, s7, s8, s9, s10, s11, s12, s13, s14⟩
    go_simp
    try with_reducible rfl
  · simp only [Act.put, List.setIfInBounds_toArray, List.set_cons_zero, List.set_cons_succ]
    rfl
  refine rg_take (i := 6) (N := (some 36)) (v := ?_) (a' := ?_) #[true, true, true, true, true, true, true, false, false, false, false, false, false, false, false, false, false, false, false, false, false, false, false, false, false, false, false, false, false, false, false, false] rfl rfl (by kernel_rfl) (fun _ _ _ h => h) (by rfl) ?_ hHeld ?_ ?_
  rotate_left 2
  · rintro w' ⟨s0, s1, s2, s3, s4, s5, s6, s7, s8, s9, s10, s11, s12, s13, s14⟩
    go_simp
    try with_reducible rfl
  · simp only [Act.put, List.setIfInBounds_toArray, List.set_cons_zero, List.set_cons_succ]
    rfl
  refine rg_one (i := 7) #[true, true, true, true, true, true, true, true, false, false, false, false, false, false, false, false, false, false, false, false, false, false, false, false, false, false, false, false, false, false, false, false] rfl (by kernel_rfl) (by rfl) (fun K hK => ?_)
  obtain ⟨s0, s1, s2, s3, s4, s5, s6, s7, s8, s9, s10, s11, s12, s13, s14⟩ := hHeld
  repeat go_step
  ((with_reducible refine (Hri.out _).mono ?_); rintro e w9 ⟨rfl, hb9⟩)
  try dsimp only
  refine hK.out _ _ ?_ (fun hHeld => ?_)
  · exact ex_keep s0 s1 s2 hb9
  clear hK K
  clear s0 s1 s2 s3 s4 s5 s6 s7 s8 s9 s10 s11 s12 s13 s14
  refine rg_take (i := 8) (N := (some 38)) (v := ?_) (a' := ?_) #[true, true, true, true, true, true, true, true, true, false, false, false, false, false, false, false, false, false, false, false, false, false, false, false, false, false, false, false, false, false, false, false] rfl rfl (by kernel_rfl) (fun _ _ _ h => h) (by rfl) ?_ hHeld ?_ ?_
  rotate_left 2
  · rintro w' ⟨s0, s1, s2, s3, s4, s5, s6, s7, s8, s9, s10, s11, s12, s13, s14⟩
    go_simp
    try with_reducible rfl
  · simp only [Act.put, List.setIfInBounds_toArray, List.set_cons_zero, List.set_cons_succ]
    rfl
  refine rg_skip (i := 9) (N := (some 39)) (a' := ?_) #[true, true, true, true, true, true, true, true, true, true, false, false, false, false, false, false, false, false, false, false, false, false, false, false, false, false, false, false, false, false, false, false] rfl rfl (by kernel_rfl) (fun _ _ _ h => h) (by rfl) hHeld ?_ ?_
  rotate_left
  · simp only [Act.put, List.setIfInBounds_toArray, List.set_cons_zero, List.set_cons_succ]
    rfl
  refine rg_skip (i := 10) (N := (some 40)) (a' := ?_) #[true, true, true, true, true, true, true, true, true, true, true, false, false, false, false, false, false, false, false, false, false, false, false, false, false, false, false, false, false, false, false, false] rfl rfl (by kernel_rfl) (fun _ _ _ h => h) (by rfl) hHeld ?_ ?_
  rotate_left
  · simp only [Act.put, List.setIfInBounds_toArray, List.set_cons_zero, List.set_cons_succ]
    rfl
  refine rg_skip (i := 11) (N := (some 41)) (a' := ?_) #[true, true, true, true, true, true, true, true, true, true, true, true, false, false, false, false, false, false, false, false, false, false, false, false, false, false, false, false, false, false, false, false] rfl rfl (by kernel_rfl) (fun _ _ _ h => h) (by rfl) hHeld ?_ ?_
  rotate_left
  · simp only [Act.put, List.setIfInBounds_toArray, List.set_cons_zero, List.set_cons_succ]
    rfl
  refine rg_skip (i := 12) (N := (some 42)) (a' := ?_) #[true, true, true, true, true, true, true, true, true, true, true, true, true, false, false, false, false, false, false, false, false, false, false, false, false, false, false, false, false, false, false, false] rfl rfl (by kernel_rfl) (fun _ _ _ h => h) (by rfl) hHeld ?_ ?_
  rotate_left
  · simp only [Act.put, List.setIfInBounds_toArray, List.set_cons_zero, List.set_cons_succ]
    rfl
  refine rg_skip (i := 13) (N := (some 43)) (a' := ?_) #[true, true, true, true, true, true, true, true, true, true, true, true, true, true, false, false, false, false, false, false, false, false, false, false, false, false, false, false, false, false, false, false] rfl rfl (by kernel_rfl) (fun _ _ _ h => h) (by rfl) hHeld ?_ ?_
  rotate_left
  · simp only [Act.put, List.setIfInBounds_toArray, List.set_cons_zero, List.set_cons_succ]
    rfl
  refine rg_skip (i := 14) (N := (some 44)) (a' := ?_) #[true, true, true, true, true, true, true, true, true, true, true, true, true, true, true, false, false, false, false, false, false, false, false, false, false, false, false, false, false, false, false, false] rfl rfl (by kernel_rfl) (fun _ _ _ h => h) (by rfl) hHeld ?_ ?_
  rotate_left
  · simp only [Act.put, List.setIfInBounds_toArray, List.set_cons_zero, List.set_cons_succ]
    rfl
  refine rg_skip (i := 15) (N := (some 45)) (a' := ?_) #[true, true, true, true, true, true, true, true, true, true, true, true, true, true, true, true, false, false, false, false, false, false, false, false, false, false, false, false, false, false, false, false] rfl rfl (by kernel_rfl) (fun _ _ _ h => h) (by rfl) hHeld ?_ ?_
  rotate_left
  · simp only [Act.put, List.setIfInBounds_toArray, List.set_cons_zero, List.set_cons_succ]
    rfl
  refine rg_skip (i := 16) (N := (some 46)) (a' := ?_) #[true, true, true, true, true, true, true, true, true, true, true, true, true, true, true, true, true, false, false, false, false, false, false, false, false, false, false, false, false, false, false, false] rfl rfl (by kernel_rfl) (fun _ _ _ h => h) (by rfl) hHeld ?_ ?_
  rotate_left
  · simp only [Act.put, List.setIfInBounds_toArray, List.set_cons_zero, List.set_cons_succ]
    rfl
  refine rg_take (i := 17) (N := (some 47)) (v := ?_) (a' := ?_) #[true, true, true, true, true, true, true, true, true, true, true, true, true, true, true, true, true, true, false, false, false, false, false, false, false, false, false, false, false, false, false, false] rfl rfl (by kernel_rfl) (fun _ _ _ h => h) (by rfl) ?_ hHeld ?_ ?_
  rotate_left 2
  · rintro w' ⟨s0, s1, s2, s3, s4, s5, s6, s7, s8, s9, s10, s11, s12, s13, s14⟩
    go_simp
    try with_reducible rfl
  · simp only [Act.put, List.setIfInBounds_toArray, List.set_cons_zero, List.set_cons_succ]
    rfl
  refine rg_take (i := 18) (N := (some 48)) (v := ?_) (a' := ?_) #[true, true, true, true, true, true, true, true, true, true, true, true, true, true, true, true, true, true, true, false, false, false, false, false, false, false, false, false, false, false, false, false] rfl rfl (by kernel_rfl) (fun _ _ _ h => h) (by rfl) ?_ hHeld ?_ ?_
  rotate_left 2
  · rintro w' ⟨s0, s1, s2, s3, s4, s5, s6, s7, s8, s9, s10, s11, s12, s13, s14⟩
    go_simp
    try with_reducible rfl
  · simp only [Act.put, List.setIfInBounds_toArray, List.set_cons_zero, List.set_cons_succ]
    rfl
  refine rg_take (i := 19) (N := (some 49)) (v := ?_) (a' := ?_) #[true, true, true, true, true, true, true, true, true, true, true, true, true, true, true, true, true, true, true, true, false, false, false, false, false, false, false, false, false, false, false, false] rfl rfl (by kernel_rfl) (fun _ _ _ h => h) (by rfl) ?_ hHeld ?_ ?_
  rotate_left 2
  · rintro w' ⟨s0, s1, s2, s3, s4, s5, s6, s7, s8, s9, s10, s11, s12, s13, s14⟩
    go_simp
    try with_reducible rfl
  · simp only [Act.put, List.setIfInBounds_toArray, List.set_cons_zero, List.set_cons_succ]
    rfl
  refine rg_take (i := 20) (N := (some 50)) (v := ?_) (a' := ?_) #[true, true, true, true, true, true, true, true, true, true, true, true, true, true, true, true, true, true, true, true, true, false, false, false, false, false, false, false, false, false, false, false] rfl rfl (by kernel_rfl) (fun _ _ _ h => h) (by rfl) ?_ hHeld ?_ ?_
  rotate_left 2
  · rintro w' ⟨s0, s1, s2, s3, s4, s5, s6, s7, s8, s9, s10, s11, s12, s13, s14⟩
    go_simp
    try with_reducible rfl
  · simp only [Act.put, List.setIfInBounds_toArray, List.set_cons_zero, List.set_cons_succ]
    rfl
  refine rg_one (i := 21) #[true, true, true, true, true, true, true, true, true, true, true, true, true, true, true, true, true, true, true, true, true, true, false, false, false, false, false, false, false, false, false, false] rfl (by kernel_rfl) (by rfl) (fun K hK => ?_)
  obtain ⟨s0, s1, s2, s3, s4, s5, s6, s7, s8, s9, s10, s11, s12, s13, s14⟩ := hHeld
  repeat go_step
  ((with_reducible refine (Hri.out _).mono ?_); rintro e w9 ⟨rfl, hb9⟩)
  try dsimp only
  refine hK.out _ _ ?_ (fun hHeld => ?_)
  · exact ex_keep s0 s1 s2 hb9
  clear hK K
  clear s0 s1 s2 s3 s4 s5 s6 s7 s8 s9 s10 s11 s12 s13 s14
  refine rg_take (i := 22) (N := (some 52)) (v := ?_) (a' := ?_) #[true, true, true, true, true, true, true, true, true, true, true, true, true, true, true, true, true, true, true, true, true, true, true, false, false, false, false, false, false, false, false, false] rfl rfl (by kernel_rfl) (fun _ _ _ h => h) (by rfl) ?_ hHeld ?_ ?_
  rotate_left 2
  · rintro w' ⟨s0, s1, s2, s3, s4, s5, s6, s7, s8, s9, s10, s11, s12, s13, s14⟩
    go_simp
    try with_reducible rfl
  · simp only [Act.put, List.setIfInBounds_toArray, List.set_cons_zero, List.set_cons_succ]
    rfl
  refine rg_take (i := 23) (N := (some 53)) (v := ?_) (a' := ?_) #[true, true, true, true, true, true, true, true, true, true, true, true, true, true, true, true, true, true, true, true, true, true, true, true, false, false, false, false, false, false, false, false] rfl rfl (by kernel_rfl) (fun _ _ _ h => h) (by rfl) ?_ hHeld ?_ ?_
  rotate_left 2
  · rintro w' ⟨s0, s1, s2, s3, s4, s5, s6, s7, s8, s9, s10, s11, s12, s13, s14⟩
    go_simp
    try with_reducible rfl
  · simp only [Act.put, List.setIfInBounds_toArray, List.set_cons_zero, List.set_cons_succ]
    rfl
  refine rg_take (i := 24) (N := (some 54)) (v := ?_) (a' := ?_) #[true, true, true, true, true, true, true, true, true, true, true, true, true, true, true, true, true, true, true, true, true, true, true, true, true, false, false, false, false, false, false, false] rfl rfl (by kernel_rfl) (fun _ _ _ h => h) (by rfl) ?_ hHeld ?_ ?_
  rotate_left 2
  · rintro w' ⟨s0, s1, s2, s3, s4, s5, s6, s7, s8, s9, s10, s11, s12, s13, s14⟩
    go_simp
    try with_reducible rfl
  · simp only [Act.put, List.setIfInBounds_toArray, List.set_cons_zero, List.set_cons_succ]
    rfl
  refine rg_take (i := 25) (N := (some 55)) (v := ?_) (a' := ?_) #[true, true, true, true, true, true, true, true, true, true, true, true, true, true, true, true, true, true, true, true, true, true, true, true, true, true, false, false, false, false, false, false] rfl rfl (by kernel_rfl) (fun _ _ _ h => h) (by rfl) ?_ hHeld ?_ ?_
  rotate_left 2
  · rintro w' ⟨s0, s1, s2, s3, s4, s5, s6, s7, s8, s9, s10, s11, s12, s13, s14⟩
    go_simp
    try with_reducible rfl
  · simp only [Act.put, List.setIfInBounds_toArray, List.set_cons_zero, List.set_cons_succ]
    rfl
  refine rg_take (i := 26) (N := (some 56)) (v := ?_) (a' := ?_) #[true, true, true, true, true, true, true, true, true, true, true, true, true, true, true, true, true, true, true, true, true, true, true, true, true, true, true, false, false, false, false, false] rfl rfl (by kernel_rfl) (fun _ _ _ h => h) (by rfl) ?_ hHeld ?_ ?_
  rotate_left 2
  · rintro w' ⟨s0, s1, s2, s3, s4, s5, s6, s7, s8, s9, s10, s11, s12, s13, s14⟩
    go_simp
    try with_reducible rfl
  · simp only [Act.put, List.setIfInBounds_toArray, List.set_cons_zero, List.set_cons_succ]
    rfl
  refine rg_take (i := 27) (N := (some 57)) (v := ?_) (a' := ?_) #[true, true, true, true, true, true, true, true, true, true, true, true, true, true, true, true, true, true, true, true, true, true, true, true, true, true, true, true, false, false, false, false] rfl rfl (by kernel_rfl) (fun _ _ _ h => h) (by rfl) ?_ hHeld ?_ ?_
  rotate_left 2
  · rintro w' ⟨s0, s1, s2, s3, s4, s5, s6, s7, s8, s9, s10, s11, s12, s13, s14⟩
    go_simp
    try with_reducible rfl
  · simp only [Act.put, List.setIfInBounds_toArray, List.set_cons_zero, List.set_cons_succ]
    rfl
  refine rg_take (i := 28) (N := (some 58)) (v := ?_) (a' := ?_) #[true, true, true, true, true, true, true, true, true, true, true, true, true, true, true, true, true, true, true, true, true, true, true, true, true, true, true, true, true, false, false, false] rfl rfl (by kernel_rfl) (fun _ _ _ h => h) (by rfl) ?_ hHeld ?_ ?_
  rotate_left 2
  · rintro w' ⟨s0, s1, s2, s3, s4, s5, s6, s7, s8, s9, s10, s11, s12, s13, s14⟩
    go_simp
    try with_reducible rfl
  · simp only [Act.put, List.setIfInBounds_toArray, List.set_cons_zero, List.set_cons_succ]
    rfl
  refine rg_take (i := 29) (N := (some 59)) (v := ?_) (a' := ?_) #[true, true, true, true, true, true, true, true, true, true, true, true, true, true, true, true, true, true, true, true, true, true, true, true, true, true, true, true, true, true, false, false] rfl rfl (by kernel_rfl) (fun _ _ _ h => h) (by rfl) ?_ hHeld ?_ ?_
  rotate_left 2
  · rintro w' ⟨s0, s1, s2, s3, s4, s5, s6, s7, s8, s9, s10, s11, s12, s13, s14⟩
    go_simp
    try with_reducible rfl
  · simp only [Act.put, List.setIfInBounds_toArray, List.set_cons_zero, List.set_cons_succ]
    rfl
  refine rg_take (i := 30) (N := (some 60)) (v := ?_) (a' := ?_) #[true, true, true, true, true, true, true, true, true, true, true, true, true, true, true, true, true, true, true, true, true, true, true, true, true, true, true, true, true, true, true, false] rfl rfl (by kernel_rfl) (fun _ _ _ h => h) (by rfl) ?_ hHeld ?_ ?_
  rotate_left 2
  · rintro w' ⟨s0, s1, s2, s3, s4, s5, s6, s7, s8, s9, s10, s11, s12, s13, s14⟩
    go_simp
    try with_reducible rfl
  · simp only [Act.put, List.setIfInBounds_toArray, List.set_cons_zero, List.set_cons_succ]
    rfl
  refine rg_take (i := 31) (N := (some 61)) (v := ?_) (a' := ?_) #[true, true, true, true, true, true, true, true, true, true, true, true, true, true, true, true, true, true, true, true, true, true, true, true, true, true, true, true, true, true, true, true] rfl rfl (by kernel_rfl) (fun _ _ _ h => h) (by rfl) ?_ hHeld ?_ ?_
  rotate_left 2
  · rintro w' ⟨s0, s1, s2, s3, s4, s5, s6, s7, s8, s9, s10, s11, s12, s13, s14⟩
    go_simp
    try with_reducible rfl
  · simp only [Act.put, List.setIfInBounds_toArray, List.set_cons_zero, List.set_cons_succ]
    rfl
  refine rg_done (by kernel_rfl) ?_
  obtain ⟨h0, h1, h2, _⟩ := hHeld
  all_goals clear Hfm Hby His Hri Hlg hb hz hu z0 z1 z2 z3 z4 z5 u0 u1 u2 u3 u4 u5 y0 y1 y2 y3 y4 y5
  all_goals cases I
  all_goals have hP := HPR.out
  all_goals clear HPR
  · simp [ord0] at hP
    obtain ⟨⟨rfl, rfl, rfl, rfl, rfl, rfl⟩, rfl⟩ := hP
    go_wp2_with (first | (go_at_call 16; (with_reducible refine (Hpr.out _).mono ?_); rintro e w6 ⟨rfl, hb6⟩; have hb := below_next h0 hb6) | (go_at_call 17; (with_reducible refine (Hrd.out _ _ (RIn.new_at _ _ _ (by simp))).mono ?_); rintro e w7 ⟨rfl, hi7, hfr7⟩; have hp := (OrdAt.fr ((OrdAt.new w6 ⟨0, ⟨#[]⟩, ⟨#[]⟩, 0, ⟨#[]⟩, ⟨#[]⟩⟩).fr ((Fr.refl (fun _ => False) _).alloc _) id) hfr7 (by omega)); have hb := (below_alloc (below_alloc hb)).trans (hfr7.to_below (by have := hb.size; simp; omega) (fun i hi e => by have := hb.size; omega)); have q0 := hi7.c0; have z0 := hp.c0; have z1 := hp.c1; have z2 := hp.c2; have z3 := hp.c3; have z4 := hp.c4; have z5 := hp.c5; have y0 := hp.f 0; have y1 := hp.f 1; have y2 := hp.f 2; have y3 := hp.f 3; have y4 := hp.f 4; have y5 := hp.f 5; have hp1 := hp.below (below_alloc (o := (.cells #[.int .i64 rk, .string rkey, .string rval, .int .u64 rn, .string rlo, .string rhi] 27)) (Below.refl _ w7)); have z0 := hp1.c0; have z1 := hp1.c1; have z2 := hp1.c2; have z3 := hp1.c3; have z4 := hp1.c4; have z5 := hp1.c5; have y0 := hp1.f 0; have y1 := hp1.f 1; have y2 := hp1.f 2; have y3 := hp1.f 3; have y4 := hp1.f 4; have y5 := hp1.f 5; have q1 := (hi7.below (below_alloc (o := (.cells #[.int .i64 rk, .string rkey, .string rval, .int .u64 rn, .string rlo, .string rhi] 27)) (Below.refl _ w7))).c0))
    go_ret
    exact ⟨rfl, below_alloc hb⟩
  · by_cases h7 : rs.size = 0
    · simp [h7] at hP
      obtain ⟨⟨rfl, rfl, rfl, rfl, rfl, rfl⟩, rfl⟩ := hP
      obtain rfl : rs = ⟨#[]⟩ := empty_of h7
      clear h7
      go_wp2_with (first | (go_at_call 16; (with_reducible refine (Hpr.out _).mono ?_); rintro e w6 ⟨rfl, hb6⟩; have hb := below_next h0 hb6) | (go_at_call 17; (with_reducible refine (Hrd.out _ _ (RIn.new_at _ _ _ (by simp))).mono ?_); rintro e w7 ⟨rfl, hi7, hfr7⟩; have hp := (OrdAt.fr ((OrdAt.new w6 ⟨pk, pkey, pval, pn, plo, phi⟩).fr ((Fr.refl (fun _ => False) _).alloc _) id) hfr7 (by omega)); have hb := (below_alloc (below_alloc hb)).trans (hfr7.to_below (by have := hb.size; simp; omega) (fun i hi e => by have := hb.size; omega)); have q0 := hi7.c0; have z0 := hp.c0; have z1 := hp.c1; have z2 := hp.c2; have z3 := hp.c3; have z4 := hp.c4; have z5 := hp.c5; have y0 := hp.f 0; have y1 := hp.f 1; have y2 := hp.f 2; have y3 := hp.f 3; have y4 := hp.f 4; have y5 := hp.f 5; have hp1 := hp.below (below_alloc (o := (.cells #[.int .i64 pk, .string pkey, .string pval, .int .u64 pn, .string plo, .string phi] 27)) (Below.refl _ w7)); have z0 := hp1.c0; have z1 := hp1.c1; have z2 := hp1.c2; have z3 := hp1.c3; have z4 := hp1.c4; have z5 := hp1.c5; have y0 := hp1.f 0; have y1 := hp1.f 1; have y2 := hp1.f 2; have y3 := hp1.f 3; have y4 := hp1.f 4; have y5 := hp1.f 5; have q1 := (hi7.below (below_alloc (o := (.cells #[.int .i64 pk, .string pkey, .string pval, .int .u64 pn, .string plo, .string phi] 27)) (Below.refl _ w7))).c0))
      have hu := ROrdAt.new w7 ⟨pk, pkey, pval, pn, plo, phi⟩
      have u0 := hu.c0; have u1 := hu.c1; have u2 := hu.c2; have u3 := hu.c3; have u4 := hu.c4; have u5 := hu.c5
      have hb := below_alloc (o := (.cells #[.int .i64 pk, .string pkey, .string pval, .int .u64 pn, .string plo, .string phi] 27)) hb
      refine rg_start (n := 9) (fun w' => Below w.heap.size w w' ∧ OrdAt w' w6.heap.size ⟨pk, pkey, pval, pn, plo, phi⟩ ∧ ROrdAt w' w7.heap.size ⟨pk, pkey, pval, pn, plo, phi⟩ ∧ w'.cell? ⟨w6.heap.size, 0, none⟩ = some (.int .i64 pk) ∧ w'.cell? ⟨w6.heap.size, 1, none⟩ = some (.string pkey) ∧ w'.cell? ⟨w6.heap.size, 2, none⟩ = some (.string pval) ∧ w'.cell? ⟨w6.heap.size, 3, none⟩ = some (.int .u64 pn) ∧ w'.cell? ⟨w6.heap.size, 4, none⟩ = some (.string plo) ∧ w'.cell? ⟨w6.heap.size, 5, none⟩ = some (.string phi) ∧ w'.cell? ⟨w7.heap.size, 0, none⟩ = some (.int .i64 pk) ∧ w'.cell? ⟨w7.heap.size, 1, none⟩ = some (.string pkey) ∧ w'.cell? ⟨w7.heap.size, 2, none⟩ = some (.string pval) ∧ w'.cell? ⟨w7.heap.size, 3, none⟩ = some (.int .u64 pn) ∧ w'.cell? ⟨w7.heap.size, 4, none⟩ = some (.string plo) ∧ w'.cell? ⟨w7.heap.size, 5, none⟩ = some (.string phi)) #[false, false, false, false, false, false, false, false, false] (by kernel_rfl) rfl rfl ⟨hb.drew, hp1, hu, z0, z1, z2, z3, z4, z5, u0, u1, u2, u3, u4, u5⟩ (fun hHeld => ?_)
      refine rg_take (i := 0) (N := (some 91)) (v := ?_) (a' := ?_) #[true, false, false, false, false, false, false, false, false] rfl rfl (by kernel_rfl) (fun _ _ _ h => h) (by rfl) ?_ hHeld ?_ ?_
      rotate_left 2
      · rintro w' ⟨s0, s1, s2, s3, s4, s5, s6, s7, s8, s9, s10, s11, s12, s13, s14⟩
        go_simp
        try with_reducible rfl
      · simp only [Act.put, List.setIfInBounds_toArray, List.set_cons_zero, List.set_cons_succ]
        rfl
      refine rg_take (i := 1) (N := (some 92)) (v := ?_) (a' := ?_) #[true, true, false, false, false, false, false, false, false] rfl rfl (by kernel_rfl) (fun _ _ _ h => h) (by rfl) ?_ hHeld ?_ ?_
      rotate_left 2
      · rintro w' ⟨s0, s1, s2, s3, s4, s5, s6, s7, s8, s9, s10, s11, s12, s13, s14⟩
        go_simp
        try with_reducible rfl
      · simp only [Act.put, List.setIfInBounds_toArray, List.set_cons_zero, List.set_cons_succ]
        rfl
      refine rg_take (i := 2) (N := (some 93)) (v := ?_) (a' := ?_) #[true, true, true, false, false, false, false, false, false] rfl rfl (by kernel_rfl) (fun _ _ _ h => h) (by rfl) ?_ hHeld ?_ ?_
      rotate_left 2
      · rintro w' ⟨s0, s1, s2, s3, s4, s5, s6, s7, s8, s9, s10, s11, s12, s13, s14⟩
        go_simp
        try with_reducible rfl
      · simp only [Act.put, List.setIfInBounds_toArray, List.set_cons_zero, List.set_cons_succ]
        rfl
      refine rg_take (i := 3) (N := (some 94)) (v := ?_) (a' := ?_) #[true, true, true, true, false, false, false, false, false] rfl rfl (by kernel_rfl) (fun _ _ _ h => h) (by rfl) ?_ hHeld ?_ ?_
      rotate_left 2
      · rintro w' ⟨s0, s1, s2, s3, s4, s5, s6, s7, s8, s9, s10, s11, s12, s13, s14⟩
        go_simp
        try with_reducible rfl
      · simp only [Act.put, List.setIfInBounds_toArray, List.set_cons_zero, List.set_cons_succ]
        rfl
      refine rg_take (i := 5) (N := (some 96)) (v := ?_) (a' := ?_) #[true, true, true, true, false, true, false, false, false] rfl rfl (by kernel_rfl) (fun _ _ _ h => h) (by rfl) ?_ hHeld ?_ ?_
      rotate_left 2
      · rintro w' ⟨s0, s1, s2, s3, s4, s5, s6, s7, s8, s9, s10, s11, s12, s13, s14⟩
        go_simp
        try with_reducible rfl
      · simp only [Act.put, List.setIfInBounds_toArray, List.set_cons_zero, List.set_cons_succ]
        rfl
      refine rg_one (i := 4) #[true, true, true, true, true, true, false, false, false] rfl (by kernel_rfl) (by rfl) (fun K hK => ?_)
      obtain ⟨s0, s1, s2, s3, s4, s5, s6, s7, s8, s9, s10, s11, s12, s13, s14⟩ := hHeld
      repeat go_step
      ((with_reducible refine (Hfr.out _).mono ?_); rintro e w9 ⟨rfl, hb9⟩)
      try dsimp only
      refine hK.out _ _ ?_ (fun hHeld => ?_)
      · exact ex_keep s0 s1 s2 hb9
      clear hK K
      clear s0 s1 s2 s3 s4 s5 s6 s7 s8 s9 s10 s11 s12 s13 s14
      refine rg_take (i := 6) (N := (some 97)) (v := ?_) (a' := ?_) #[true, true, true, true, true, true, true, false, false] rfl rfl (by kernel_rfl) (fun _ _ _ h => h) (by rfl) ?_ hHeld ?_ ?_
      rotate_left 2
      · rintro w' ⟨s0, s1, s2, s3, s4, s5, s6, s7, s8, s9, s10, s11, s12, s13, s14⟩
        go_simp
        try with_reducible rfl
      · simp only [Act.put, List.setIfInBounds_toArray, List.set_cons_zero, List.set_cons_succ]
        rfl
      refine rg_take (i := 7) (N := (some 98)) (v := ?_) (a' := ?_) #[true, true, true, true, true, true, true, true, false] rfl rfl (by kernel_rfl) (fun _ _ _ h => h) (by rfl) ?_ hHeld ?_ ?_
      rotate_left 2
      · rintro w' ⟨s0, s1, s2, s3, s4, s5, s6, s7, s8, s9, s10, s11, s12, s13, s14⟩
        go_simp
        try with_reducible rfl
      · simp only [Act.put, List.setIfInBounds_toArray, List.set_cons_zero, List.set_cons_succ]
        rfl
      refine rg_take (i := 8) (N := (some 4)) (v := ?_) (a' := ?_) #[true, true, true, true, true, true, true, true, true] rfl rfl (by kernel_rfl) (fun _ _ _ h => h) (by rfl) ?_ hHeld ?_ ?_
      rotate_left 2
      · rintro w' ⟨s0, s1, s2, s3, s4, s5, s6, s7, s8, s9, s10, s11, s12, s13, s14⟩
        go_simp
        try with_reducible rfl
      · simp only [Act.put, List.setIfInBounds_toArray, List.set_cons_zero, List.set_cons_succ]
        rfl
      refine rg_done (by kernel_rfl) ?_
      obtain ⟨h0, h1, h2, _⟩ := hHeld
      all_goals go_wp2
      all_goals go_ret
      all_goals exact ⟨rfl, h0⟩
    · simp [h7, ord0] at hP
      obtain ⟨⟨rfl, rfl, rfl, rfl, rfl, rfl⟩, rfl⟩ := hP
      have h8 : rs.toList.isEmpty = false := by
        rw [Bool.eq_false_iff, Ne, List.isEmpty_iff]
        intro h
        rw [← empty_iff] at h
        subst h
        exact h7 rfl
      clear h7
      go_wp2_with (first | (go_at_call 16; (with_reducible refine (Hpr.out _).mono ?_); rintro e w6 ⟨rfl, hb6⟩; have hb := below_next h0 hb6) | (go_at_call 17; (with_reducible refine (Hrd.out _ _ (RIn.new_at _ _ _ (by simp))).mono ?_); rintro e w7 ⟨rfl, hi7, hfr7⟩; have hp := (OrdAt.fr ((OrdAt.new w6 ⟨0, ⟨#[]⟩, ⟨#[]⟩, 0, ⟨#[]⟩, ⟨#[]⟩⟩).fr ((Fr.refl (fun _ => False) _).alloc _) id) hfr7 (by omega)); have hb := (below_alloc (below_alloc hb)).trans (hfr7.to_below (by have := hb.size; simp; omega) (fun i hi e => by have := hb.size; omega)); have q0 := hi7.c0; have z0 := hp.c0; have z1 := hp.c1; have z2 := hp.c2; have z3 := hp.c3; have z4 := hp.c4; have z5 := hp.c5; have y0 := hp.f 0; have y1 := hp.f 1; have y2 := hp.f 2; have y3 := hp.f 3; have y4 := hp.f 4; have y5 := hp.f 5; have hp1 := hp.below (below_alloc (o := (.cells #[.int .i64 rk, .string rkey, .string rval, .int .u64 rn, .string rlo, .string rhi] 27)) (Below.refl _ w7)); have z0 := hp1.c0; have z1 := hp1.c1; have z2 := hp1.c2; have z3 := hp1.c3; have z4 := hp1.c4; have z5 := hp1.c5; have y0 := hp1.f 0; have y1 := hp1.f 1; have y2 := hp1.f 2; have y3 := hp1.f 3; have y4 := hp1.f 4; have y5 := hp1.f 5; have q1 := (hi7.below (below_alloc (o := (.cells #[.int .i64 rk, .string rkey, .string rval, .int .u64 rn, .string rlo, .string rhi] 27)) (Below.refl _ w7))).c0))
      go_ret
      exact ⟨rfl, below_alloc hb⟩

theorem exact_any (o : Ord) (s : ByteArray) (w : World) (hf : o.fits) : Calls Try.prog 3 #[o.v, .string s] w fun e w' => e = .returned (.bool true) ∧ Below w.heap.size w w' := by
  obtain ⟨k, key, val, n, lo, hi⟩ := o
  cases hL : longB ⟨k, key, val, n, lo, hi⟩
  · by_cases hs : (s.size : Int) ≤ 600
    · cases ho : isOrd ⟨k, key, val, n, lo, hi⟩
      · exact exact_false k n key val lo hi s w hf hL hs ho
      · exact exact_true k n key val lo hi s w hf hL hs ho
    · exact exact_much k n key val lo hi s w hL (by omega)
  · exact exact_long k n key val lo hi s w hL

end Go.Proofs.Ytdfgdnaejnngoaa
