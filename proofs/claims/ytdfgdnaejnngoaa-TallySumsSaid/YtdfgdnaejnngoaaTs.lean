import Derived.Test.YtdfgdnaejnngoaaTl
import Derived.Deep.MidRow
namespace Go.Proofs.Ytdfgdnaejnngoaa
open Go.RowKit
def Ev.v (e : Ev) : Value := .agg #[.int .i64 e.kind, .int .i64 e.o.kind, .string e.o.key, .string e.o.val, .int .u64 e.o.n, .string e.o.lo, .string e.o.hi, .int .i64 e.n, e.keep, .int .i64 e.err, .bool e.has, .string e.val, .slice e.iA e.il e.ic, .int .i64 (e.st 0), .int .i64 (e.st 1), .int .i64 (e.st 2), .int .i64 (e.st 3), .int .i64 (e.st 4), .int .i64 (e.st 5), .int .i64 (e.st 6), .int .i64 (e.st 7), .int .i64 (e.st 8)]
theorem Ev.v_def (e : Ev) : e.v = .agg #[.int .i64 e.kind, .int .i64 e.o.kind, .string e.o.key, .string e.o.val, .int .u64 e.o.n, .string e.o.lo, .string e.o.hi, .int .i64 e.n, e.keep, .int .i64 e.err, .bool e.has, .string e.val, .slice e.iA e.il e.ic, .int .i64 (e.st 0), .int .i64 (e.st 1), .int .i64 (e.st 2), .int .i64 (e.st 3), .int .i64 (e.st 4), .int .i64 (e.st 5), .int .i64 (e.st 6), .int .i64 (e.st 7), .int .i64 (e.st 8)] := rfl
/-- not more than is asked -/
def Ev.good (e : Ev) : Prop := e.o.key.size ≤ 512 ∧ e.o.val.size ≤ 512 ∧ e.o.lo.size ≤ 512 ∧ e.o.hi.size ≤ 512 ∧ e.il ≤ 512
/-- numbers that don't come near their end -/
def Small (v : Nat → Int) : Prop := ∀ i, i < 25 → 0 ≤ v i ∧ v i ≤ 1152921504606846970

theorem box_cells (w : World) (cs : Array Value) (t : TypeId) : ∀ j u, cs[j]? = some u → (w.alloc (.cells cs t)).cell? ⟨w.heap.size, j, none⟩ = some u := fun j u hj => by
  rw [Lib.cell_of_heap (heap_alloc_new w _)]
  exact hj
set_option maxHeartbeats 1000000 in
set_option maxRecDepth 100000 in
theorem see_1 (b : Nat) (v : Nat → Int) (e : Ev) (w : World) (h : VAt 71 25 w b v) (hs : Small v) (hg : e.good) (hk : e.kind = 1) : Calls Try.prog 51 #[.pointer (some ⟨b, 0, none⟩), e.v] w
    fun e' w' => e' = .returned (.tuple #[]) ∧ VAt 71 25 w' b (fun i => v i + inc e i) ∧ Fr (fun k => k = b) w w' := by
  have hi : ∀ i, inc e i = incA e.o e.err e.has e.il i := fun i => if_pos hk
  have ha := fun W hva => ask_any b v e.o e.err e.has e.val e.iA e.il e.ic e.st W hva (fun i hi => (hs i hi).1) (fun i hi => (hs i hi).2) (by have := hg.1; omega) (by have := hg.2.1; omega) (by have := hg.2.2.2.2; omega)
  obtain ⟨kind, ⟨ok, okey, oval, on, olo, ohi⟩, n, kA, kl, kc, err, has, val, iA, il, ic, st⟩ := e
  rw [Ev.v_def]
  dsimp only at hi ha hk ⊢
  subst hk
  generalize incA _ err has il = I at hi ha
  generalize inc _ = J at hi ⊢
  have HI := Lib.hid hi
  have HA := Lib.hid ha
  have H0 := Lib.hid h
  clear hi ha h hs hg
  go_enter Try.func51, Try.ntmps51
  go_wp2_with (go_at_call 77; (with_reducible refine (HA.out _ (H0.out.fr ((Fr.refl (fun _ => False) w).alloc _) id)).mono ?_); rintro e w1 ⟨rfl, hv1, hf1⟩)
  go_end0
  exact ⟨rfl, hv1.eq fun i => by rw [HI.out], ((Fr.refl _ w).alloc _).tr hf1⟩

set_option maxHeartbeats 1000000 in
set_option maxRecDepth 100000 in
theorem see_raw_2 (b : Nat) (v : Nat → Int) (x1 x2 x3 x4 x5 x6 x7 x8 x10 x11 x12 x13 x14 x15 x16 x17 x18 x19 x20 x21 : Value) (err : Int) (w : World) (h : VAt 71 25 w b v) (hs0 : 0 ≤ v 23) (hs1 : v 23 ≤ 1152921504606846970) : Calls Try.prog 51 #[.pointer (some ⟨b, 0, none⟩), .agg #[.int .i64 2, x1, x2, x3, x4, x5, x6, x7, x8, .int .i64 err, x10, x11, x12, x13, x14, x15, x16, x17, x18, x19, x20, x21]] w
    fun e' w' => e' = .returned (.tuple #[]) ∧ VAt 71 25 w' b (updI v 23 (v 23 + if err = 0 then 1 else 0)) ∧ Fr (fun k => k = b) w w' := by
  have hone := fun W => one_any (.int .i64 2) x1 x2 x3 x4 x5 x6 x7 x8 x10 x11 x12 x13 x14 x15 x16 x17 x18 x19 x20 x21 err W
  have hr : 0 ≤ (if err = 0 then (1 : Int) else 0) ∧ (if err = 0 then (1 : Int) else 0) ≤ 1 := by split <;> omega
  generalize (if err = 0 then (1 : Int) else 0) = r at hone hr ⊢
  obtain ⟨hr0, hr1⟩ := hr
  have c0 := h.cell (i := 23) (by omega)
  have f0 := h.f 23
  have hbl := h.lt
  have HO := Lib.hid hone
  have H0 := Lib.hid h
  clear hone h
  go_enter Try.func51, Try.ntmps51
  go_wp2
  have hR : (w.alloc (.cells #[.int .i64 2, x1, x2, x3, x4, x5, x6, x7, x8, .int .i64 err, x10, x11, x12, x13, x14, x15, x16, x17, x18, x19, x20, x21] 67)).rangeAt w.heap.size 0 [.int .i64 2, x1, x2, x3, x4, x5, x6, x7, x8, .int .i64 err, x10, x11, x12, x13, x14, x15, x16, x17, x18, x19, x20, x21] := fun j u hj => by rw [Nat.zero_add]; exact box_cells w _ _ j u (by simpa using hj)
  have hva := H0.out.fr ((Fr.refl (fun _ => False) w).alloc (.cells #[.int .i64 2, x1, x2, x3, x4, x5, x6, x7, x8, .int .i64 err, x10, x11, x12, x13, x14, x15, x16, x17, x18, x19, x20, x21] 67)) id
  have hsz : (w.alloc (.cells #[.int .i64 2, x1, x2, x3, x4, x5, x6, x7, x8, .int .i64 err, x10, x11, x12, x13, x14, x15, x16, x17, x18, x19, x20, x21] 67)).heap.size = w.heap.size + 1 := by simp
  have hfr := (Fr.refl (fun k => k = b) w).alloc (.cells #[.int .i64 2, x1, x2, x3, x4, x5, x6, x7, x8, .int .i64 err, x10, x11, x12, x13, x14, x15, x16, x17, x18, x19, x20, x21] 67)
  generalize w.alloc (.cells #[.int .i64 2, x1, x2, x3, x4, x5, x6, x7, x8, .int .i64 err, x10, x11, x12, x13, x14, x15, x16, x17, x18, x19, x20, x21] 67) = W at *
  have c1 := hva.cell (i := 23) (by omega)
  have f1 := hva.f 23
  have HR := Lib.hid hR
  clear hR
  have HVA := Lib.hid hva
  have HFR := Lib.hid hfr
  clear hva hfr c0 f0
  refine rg_start (n := 10) (fun w' => True) #[false, false, false, false, false, false, false, false, false, false] (by kernel_rfl) rfl rfl trivial (fun hHeld => ?_)
  refine rg_take (i := 0) (N := (some 19)) (v := ?_) (a' := ?_) #[true, false, false, false, false, false, false, false, false, false] rfl rfl (by kernel_rfl) (fun _ _ _ h => h) (by rfl) ?_ hHeld ?_ ?_
  rotate_left 2
  · rintro w' _s
    go_simp
    try with_reducible rfl
  · simp only [Act.put, List.setIfInBounds_toArray, List.set_cons_zero, List.set_cons_succ]
    rfl
  refine rg_take (i := 1) (N := (some 20)) (v := ?_) (a' := ?_) #[true, true, false, false, false, false, false, false, false, false] rfl rfl (by kernel_rfl) (fun _ _ _ h => h) (by rfl) ?_ hHeld ?_ ?_
  rotate_left 2
  · rintro w' _s
    go_simp
    try with_reducible rfl
  · simp only [Act.put, List.setIfInBounds_toArray, List.set_cons_zero, List.set_cons_succ]
    rfl
  refine rg_take (i := 2) (N := (some 21)) (v := ?_) (a' := ?_) #[true, true, true, false, false, false, false, false, false, false] rfl rfl (by kernel_rfl) (fun _ _ _ h => h) (by rfl) ?_ hHeld ?_ ?_
  rotate_left 2
  · rintro w' _s
    go_simp
    try with_reducible rfl
  · simp only [Act.put, List.setIfInBounds_toArray, List.set_cons_zero, List.set_cons_succ]
    rfl
  refine rg_two (i := 3) (j := 4) #[true, true, true, true, false, false, false, false, false, false] #[true, true, true, false, true, false, false, false, false, false] rfl rfl (by kernel_rfl) (by rfl) (by rfl) (fun K hK => ?_) (fun K hK => ?_)
  · skip
    repeat go_step
    (skip)
    try dsimp only
    refine hK.out _ _ ?_ (fun hHeld => ?_)
    · trivial
    clear hK K
    refine rg_one (i := 4) #[true, true, true, true, true, false, false, false, false, false] rfl (by kernel_rfl) (by rfl) (fun K hK => ?_)
    (refine wp_load_mid 67 (Operand.tmp 3) rfl w.heap.size 0 rfl _ _ HR.out Try.underlying67 rfl (by kernel_rfl) ?_)
    repeat go_step
    refine hK.out _ _ ?_ (fun hHeld => ?_)
    · trivial
    clear hK K
    refine rg_one (i := 5) #[true, true, true, true, true, true, false, false, false, false] rfl (by kernel_rfl) (by rfl) (fun K hK => ?_)
    repeat go_step
    ((with_reducible refine (HO.out _).mono ?_); rintro e w1 ⟨rfl, hb1⟩; have hv1 := HVA.out.drew.below hb1; have c2 := hv1.cell (i := 23) (by omega); have f2 := hv1.f 23; have HV1 := Lib.hid hv1; clear hv1)
    try dsimp only
    refine hK.out _ _ ?_ (fun hHeld => ?_)
    · trivial
    clear hK K
    refine rg_take (i := 6) (N := (some 25)) (v := ?_) (a' := ?_) #[true, true, true, true, true, true, true, false, false, false] rfl rfl (by kernel_rfl) (fun _ _ _ h => h) (by rfl) ?_ hHeld ?_ ?_
    rotate_left 2
    · rintro w' _s
      go_simp
      try with_reducible rfl
    · simp only [Act.put, List.setIfInBounds_toArray, List.set_cons_zero, List.set_cons_succ]
      rfl
    refine rg_take (i := 7) (N := (some 26)) (v := ?_) (a' := ?_) #[true, true, true, true, true, true, true, true, false, false] rfl rfl (by kernel_rfl) (fun _ _ _ h => h) (by rfl) ?_ hHeld ?_ ?_
    rotate_left 2
    · rintro w' _s
      go_simp
      try with_reducible rfl
    · simp only [Act.put, List.setIfInBounds_toArray, List.set_cons_zero, List.set_cons_succ]
      rfl
    refine rg_take (i := 8) (N := (some 27)) (v := ?_) (a' := ?_) #[true, true, true, true, true, true, true, true, true, false] rfl rfl (by kernel_rfl) (fun _ _ _ h => h) (by rfl) ?_ hHeld ?_ ?_
    rotate_left 2
    · rintro w' _s
      go_simp
      try with_reducible rfl
    · simp only [Act.put, List.setIfInBounds_toArray, List.set_cons_zero, List.set_cons_succ]
      rfl
    refine rg_one (i := 9) #[true, true, true, true, true, true, true, true, true, true] rfl (by kernel_rfl) (by rfl) (fun K hK => ?_)
    repeat go_step
    refine hK.out _ _ ?_ (fun hHeld => ?_)
    · trivial
    clear hK K
    refine rg_done (by kernel_rfl) ?_
    go_wp2
    go_end0
    exact ⟨rfl, HV1.out.set 23 _, ((HFR.out.drew).tr' hb1).setCell (p := ⟨b, 23, none⟩) (fun _ => rfl) _⟩
  · skip
    (refine wp_load_mid 67 (Operand.tmp 3) rfl w.heap.size 0 rfl _ _ HR.out Try.underlying67 rfl (by kernel_rfl) ?_)
    repeat go_step
    refine hK.out _ _ ?_ (fun hHeld => ?_)
    · trivial
    clear hK K
    refine rg_two (i := 3) (j := 5) #[true, true, true, true, true, false, false, false, false, false] #[true, true, true, false, true, true, false, false, false, false] rfl rfl (by kernel_rfl) (by rfl) (by rfl) (fun K hK => ?_) (fun K hK => ?_)
    · skip
      repeat go_step
      (skip)
      try dsimp only
      refine hK.out _ _ ?_ (fun hHeld => ?_)
      · trivial
      clear hK K
      refine rg_one (i := 5) #[true, true, true, true, true, true, false, false, false, false] rfl (by kernel_rfl) (by rfl) (fun K hK => ?_)
      repeat go_step
      ((with_reducible refine (HO.out _).mono ?_); rintro e w1 ⟨rfl, hb1⟩; have hv1 := HVA.out.drew.below hb1; have c2 := hv1.cell (i := 23) (by omega); have f2 := hv1.f 23; have HV1 := Lib.hid hv1; clear hv1)
      try dsimp only
      refine hK.out _ _ ?_ (fun hHeld => ?_)
      · trivial
      clear hK K
      refine rg_take (i := 6) (N := (some 25)) (v := ?_) (a' := ?_) #[true, true, true, true, true, true, true, false, false, false] rfl rfl (by kernel_rfl) (fun _ _ _ h => h) (by rfl) ?_ hHeld ?_ ?_
      rotate_left 2
      · rintro w' _s
        go_simp
        try with_reducible rfl
      · simp only [Act.put, List.setIfInBounds_toArray, List.set_cons_zero, List.set_cons_succ]
        rfl
      refine rg_take (i := 7) (N := (some 26)) (v := ?_) (a' := ?_) #[true, true, true, true, true, true, true, true, false, false] rfl rfl (by kernel_rfl) (fun _ _ _ h => h) (by rfl) ?_ hHeld ?_ ?_
      rotate_left 2
      · rintro w' _s
        go_simp
        try with_reducible rfl
      · simp only [Act.put, List.setIfInBounds_toArray, List.set_cons_zero, List.set_cons_succ]
        rfl
      refine rg_take (i := 8) (N := (some 27)) (v := ?_) (a' := ?_) #[true, true, true, true, true, true, true, true, true, false] rfl rfl (by kernel_rfl) (fun _ _ _ h => h) (by rfl) ?_ hHeld ?_ ?_
      rotate_left 2
      · rintro w' _s
        go_simp
        try with_reducible rfl
      · simp only [Act.put, List.setIfInBounds_toArray, List.set_cons_zero, List.set_cons_succ]
        rfl
      refine rg_one (i := 9) #[true, true, true, true, true, true, true, true, true, true] rfl (by kernel_rfl) (by rfl) (fun K hK => ?_)
      repeat go_step
      refine hK.out _ _ ?_ (fun hHeld => ?_)
      · trivial
      clear hK K
      refine rg_done (by kernel_rfl) ?_
      go_wp2
      go_end0
      exact ⟨rfl, HV1.out.set 23 _, ((HFR.out.drew).tr' hb1).setCell (p := ⟨b, 23, none⟩) (fun _ => rfl) _⟩
    · skip
      repeat go_step
      ((with_reducible refine (HO.out _).mono ?_); rintro e w1 ⟨rfl, hb1⟩; have hv1 := HVA.out.drew.below hb1; have c2 := hv1.cell (i := 23) (by omega); have f2 := hv1.f 23; have HV1 := Lib.hid hv1; clear hv1)
      try dsimp only
      refine hK.out _ _ ?_ (fun hHeld => ?_)
      · trivial
      clear hK K
      refine rg_one (i := 3) #[true, true, true, true, true, true, false, false, false, false] rfl (by kernel_rfl) (by rfl) (fun K hK => ?_)
      repeat go_step
      (skip)
      try dsimp only
      refine hK.out _ _ ?_ (fun hHeld => ?_)
      · trivial
      clear hK K
      refine rg_take (i := 6) (N := (some 25)) (v := ?_) (a' := ?_) #[true, true, true, true, true, true, true, false, false, false] rfl rfl (by kernel_rfl) (fun _ _ _ h => h) (by rfl) ?_ hHeld ?_ ?_
      rotate_left 2
      · rintro w' _s
        go_simp
        try with_reducible rfl
      · simp only [Act.put, List.setIfInBounds_toArray, List.set_cons_zero, List.set_cons_succ]
        rfl
      refine rg_take (i := 7) (N := (some 26)) (v := ?_) (a' := ?_) #[true, true, true, true, true, true, true, true, false, false] rfl rfl (by kernel_rfl) (fun _ _ _ h => h) (by rfl) ?_ hHeld ?_ ?_
      rotate_left 2
      · rintro w' _s
        go_simp
        try with_reducible rfl
      · simp only [Act.put, List.setIfInBounds_toArray, List.set_cons_zero, List.set_cons_succ]
        rfl
      refine rg_take (i := 8) (N := (some 27)) (v := ?_) (a' := ?_) #[true, true, true, true, true, true, true, true, true, false] rfl rfl (by kernel_rfl) (fun _ _ _ h => h) (by rfl) ?_ hHeld ?_ ?_
      rotate_left 2
      · rintro w' _s
        go_simp
        try with_reducible rfl
      · simp only [Act.put, List.setIfInBounds_toArray, List.set_cons_zero, List.set_cons_succ]
        rfl
      refine rg_one (i := 9) #[true, true, true, true, true, true, true, true, true, true] rfl (by kernel_rfl) (by rfl) (fun K hK => ?_)
      repeat go_step
      refine hK.out _ _ ?_ (fun hHeld => ?_)
      · trivial
      clear hK K
      refine rg_done (by kernel_rfl) ?_
      go_wp2
      go_end0
      exact ⟨rfl, HV1.out.set 23 _, ((HFR.out.drew).tr' hb1).setCell (p := ⟨b, 23, none⟩) (fun _ => rfl) _⟩
theorem see_2 (b : Nat) (v : Nat → Int) (e : Ev) (w : World) (h : VAt 71 25 w b v) (hs : Small v) (hk : e.kind = 2) : Calls Try.prog 51 #[.pointer (some ⟨b, 0, none⟩), e.v] w
    fun e' w' => e' = .returned (.tuple #[]) ∧ VAt 71 25 w' b (fun i => v i + inc e i) ∧ Fr (fun k => k = b) w w' := by
  have hi2 : ∀ i, updI v 23 (v 23 + if e.err = 0 then 1 else 0) i = v i + inc e i := fun i => by
    unfold updI inc
    by_cases h1 : i = 23
    · subst h1
      simp [hk]
    · simp [h1, hk]
  rw [Ev.v_def, hk]
  exact (see_raw_2 b v _ _ _ _ _ _ _ _ _ _ _ _ _ _ _ _ _ _ _ _ e.err w h (hs 23 (by omega)).1 (hs 23 (by omega)).2).mono fun e' w' ⟨he, hv, hf⟩ => ⟨he, hv.eq hi2, hf⟩
set_option maxHeartbeats 1000000 in
set_option maxRecDepth 100000 in
theorem see_raw_3 (b : Nat) (v : Nat → Int) (x1 x2 x3 x4 x5 x6 x7 x8 x10 x11 x12 x13 x14 x15 x16 x17 x18 x19 x20 x21 : Value) (err : Int) (w : World) (h : VAt 71 25 w b v) (hs0 : 0 ≤ v 23) (hs1 : v 23 ≤ 1152921504606846970) : Calls Try.prog 51 #[.pointer (some ⟨b, 0, none⟩), .agg #[.int .i64 3, x1, x2, x3, x4, x5, x6, x7, x8, .int .i64 err, x10, x11, x12, x13, x14, x15, x16, x17, x18, x19, x20, x21]] w
    fun e' w' => e' = .returned (.tuple #[]) ∧ VAt 71 25 w' b (updI v 23 (v 23 + if err = 0 then 1 else 0)) ∧ Fr (fun k => k = b) w w' := by
  have hone := fun W => one_any (.int .i64 3) x1 x2 x3 x4 x5 x6 x7 x8 x10 x11 x12 x13 x14 x15 x16 x17 x18 x19 x20 x21 err W
  have hr : 0 ≤ (if err = 0 then (1 : Int) else 0) ∧ (if err = 0 then (1 : Int) else 0) ≤ 1 := by split <;> omega
  generalize (if err = 0 then (1 : Int) else 0) = r at hone hr ⊢
  obtain ⟨hr0, hr1⟩ := hr
  have c0 := h.cell (i := 23) (by omega)
  have f0 := h.f 23
  have hbl := h.lt
  have HO := Lib.hid hone
  have H0 := Lib.hid h
  clear hone h
  go_enter Try.func51, Try.ntmps51
  go_wp2
  have hR : (w.alloc (.cells #[.int .i64 3, x1, x2, x3, x4, x5, x6, x7, x8, .int .i64 err, x10, x11, x12, x13, x14, x15, x16, x17, x18, x19, x20, x21] 67)).rangeAt w.heap.size 0 [.int .i64 3, x1, x2, x3, x4, x5, x6, x7, x8, .int .i64 err, x10, x11, x12, x13, x14, x15, x16, x17, x18, x19, x20, x21] := fun j u hj => by rw [Nat.zero_add]; exact box_cells w _ _ j u (by simpa using hj)
  have hva := H0.out.fr ((Fr.refl (fun _ => False) w).alloc (.cells #[.int .i64 3, x1, x2, x3, x4, x5, x6, x7, x8, .int .i64 err, x10, x11, x12, x13, x14, x15, x16, x17, x18, x19, x20, x21] 67)) id
  have hsz : (w.alloc (.cells #[.int .i64 3, x1, x2, x3, x4, x5, x6, x7, x8, .int .i64 err, x10, x11, x12, x13, x14, x15, x16, x17, x18, x19, x20, x21] 67)).heap.size = w.heap.size + 1 := by simp
  have hfr := (Fr.refl (fun k => k = b) w).alloc (.cells #[.int .i64 3, x1, x2, x3, x4, x5, x6, x7, x8, .int .i64 err, x10, x11, x12, x13, x14, x15, x16, x17, x18, x19, x20, x21] 67)
  generalize w.alloc (.cells #[.int .i64 3, x1, x2, x3, x4, x5, x6, x7, x8, .int .i64 err, x10, x11, x12, x13, x14, x15, x16, x17, x18, x19, x20, x21] 67) = W at *
  have c1 := hva.cell (i := 23) (by omega)
  have f1 := hva.f 23
  have HR := Lib.hid hR
  clear hR
  have HVA := Lib.hid hva
  have HFR := Lib.hid hfr
  clear hva hfr c0 f0
  refine rg_start (n := 10) (fun w' => True) #[false, false, false, false, false, false, false, false, false, false] (by kernel_rfl) rfl rfl trivial (fun hHeld => ?_)
  refine rg_take (i := 0) (N := (some 19)) (v := ?_) (a' := ?_) #[true, false, false, false, false, false, false, false, false, false] rfl rfl (by kernel_rfl) (fun _ _ _ h => h) (by rfl) ?_ hHeld ?_ ?_
  rotate_left 2
  · rintro w' _s
    go_simp
    try with_reducible rfl
  · simp only [Act.put, List.setIfInBounds_toArray, List.set_cons_zero, List.set_cons_succ]
    rfl
  refine rg_take (i := 1) (N := (some 20)) (v := ?_) (a' := ?_) #[true, true, false, false, false, false, false, false, false, false] rfl rfl (by kernel_rfl) (fun _ _ _ h => h) (by rfl) ?_ hHeld ?_ ?_
  rotate_left 2
  · rintro w' _s
    go_simp
    try with_reducible rfl
  · simp only [Act.put, List.setIfInBounds_toArray, List.set_cons_zero, List.set_cons_succ]
    rfl
  refine rg_take (i := 2) (N := (some 21)) (v := ?_) (a' := ?_) #[true, true, true, false, false, false, false, false, false, false] rfl rfl (by kernel_rfl) (fun _ _ _ h => h) (by rfl) ?_ hHeld ?_ ?_
  rotate_left 2
  · rintro w' _s
    go_simp
    try with_reducible rfl
  · simp only [Act.put, List.setIfInBounds_toArray, List.set_cons_zero, List.set_cons_succ]
    rfl
  refine rg_two (i := 3) (j := 4) #[true, true, true, true, false, false, false, false, false, false] #[true, true, true, false, true, false, false, false, false, false] rfl rfl (by kernel_rfl) (by rfl) (by rfl) (fun K hK => ?_) (fun K hK => ?_)
  · skip
    repeat go_step
    (skip)
    try dsimp only
    refine hK.out _ _ ?_ (fun hHeld => ?_)
    · trivial
    clear hK K
    refine rg_one (i := 4) #[true, true, true, true, true, false, false, false, false, false] rfl (by kernel_rfl) (by rfl) (fun K hK => ?_)
    (refine wp_load_mid 67 (Operand.tmp 3) rfl w.heap.size 0 rfl _ _ HR.out Try.underlying67 rfl (by kernel_rfl) ?_)
    repeat go_step
    refine hK.out _ _ ?_ (fun hHeld => ?_)
    · trivial
    clear hK K
    refine rg_one (i := 5) #[true, true, true, true, true, true, false, false, false, false] rfl (by kernel_rfl) (by rfl) (fun K hK => ?_)
    repeat go_step
    ((with_reducible refine (HO.out _).mono ?_); rintro e w1 ⟨rfl, hb1⟩; have hv1 := HVA.out.drew.below hb1; have c2 := hv1.cell (i := 23) (by omega); have f2 := hv1.f 23; have HV1 := Lib.hid hv1; clear hv1)
    try dsimp only
    refine hK.out _ _ ?_ (fun hHeld => ?_)
    · trivial
    clear hK K
    refine rg_take (i := 6) (N := (some 25)) (v := ?_) (a' := ?_) #[true, true, true, true, true, true, true, false, false, false] rfl rfl (by kernel_rfl) (fun _ _ _ h => h) (by rfl) ?_ hHeld ?_ ?_
    rotate_left 2
    · rintro w' _s
      go_simp
      try with_reducible rfl
    · simp only [Act.put, List.setIfInBounds_toArray, List.set_cons_zero, List.set_cons_succ]
      rfl
    refine rg_take (i := 7) (N := (some 26)) (v := ?_) (a' := ?_) #[true, true, true, true, true, true, true, true, false, false] rfl rfl (by kernel_rfl) (fun _ _ _ h => h) (by rfl) ?_ hHeld ?_ ?_
    rotate_left 2
    · rintro w' _s
      go_simp
      try with_reducible rfl
    · simp only [Act.put, List.setIfInBounds_toArray, List.set_cons_zero, List.set_cons_succ]
      rfl
    refine rg_take (i := 8) (N := (some 27)) (v := ?_) (a' := ?_) #[true, true, true, true, true, true, true, true, true, false] rfl rfl (by kernel_rfl) (fun _ _ _ h => h) (by rfl) ?_ hHeld ?_ ?_
    rotate_left 2
    · rintro w' _s
      go_simp
      try with_reducible rfl
    · simp only [Act.put, List.setIfInBounds_toArray, List.set_cons_zero, List.set_cons_succ]
      rfl
    refine rg_one (i := 9) #[true, true, true, true, true, true, true, true, true, true] rfl (by kernel_rfl) (by rfl) (fun K hK => ?_)
    repeat go_step
    refine hK.out _ _ ?_ (fun hHeld => ?_)
    · trivial
    clear hK K
    refine rg_done (by kernel_rfl) ?_
    go_wp2
    go_end0
    exact ⟨rfl, HV1.out.set 23 _, ((HFR.out.drew).tr' hb1).setCell (p := ⟨b, 23, none⟩) (fun _ => rfl) _⟩
  · skip
    (refine wp_load_mid 67 (Operand.tmp 3) rfl w.heap.size 0 rfl _ _ HR.out Try.underlying67 rfl (by kernel_rfl) ?_)
    repeat go_step
    refine hK.out _ _ ?_ (fun hHeld => ?_)
    · trivial
    clear hK K
    refine rg_two (i := 3) (j := 5) #[true, true, true, true, true, false, false, false, false, false] #[true, true, true, false, true, true, false, false, false, false] rfl rfl (by kernel_rfl) (by rfl) (by rfl) (fun K hK => ?_) (fun K hK => ?_)
    · skip
      repeat go_step
      (skip)
      try dsimp only
      refine hK.out _ _ ?_ (fun hHeld => ?_)
      · trivial
      clear hK K
      refine rg_one (i := 5) #[true, true, true, true, true, true, false, false, false, false] rfl (by kernel_rfl) (by rfl) (fun K hK => ?_)
      repeat go_step
      ((with_reducible refine (HO.out _).mono ?_); rintro e w1 ⟨rfl, hb1⟩; have hv1 := HVA.out.drew.below hb1; have c2 := hv1.cell (i := 23) (by omega); have f2 := hv1.f 23; have HV1 := Lib.hid hv1; clear hv1)
      try dsimp only
      refine hK.out _ _ ?_ (fun hHeld => ?_)
      · trivial
      clear hK K
      refine rg_take (i := 6) (N := (some 25)) (v := ?_) (a' := ?_) #[true, true, true, true, true, true, true, false, false, false] rfl rfl (by kernel_rfl) (fun _ _ _ h => h) (by rfl) ?_ hHeld ?_ ?_
      rotate_left 2
      · rintro w' _s
        go_simp
        try with_reducible rfl
      · simp only [Act.put, List.setIfInBounds_toArray, List.set_cons_zero, List.set_cons_succ]
        rfl
      refine rg_take (i := 7) (N := (some 26)) (v := ?_) (a' := ?_) #[true, true, true, true, true, true, true, true, false, false] rfl rfl (by kernel_rfl) (fun _ _ _ h => h) (by rfl) ?_ hHeld ?_ ?_
      rotate_left 2
      · rintro w' _s
        go_simp
        try with_reducible rfl
      · simp only [Act.put, List.setIfInBounds_toArray, List.set_cons_zero, List.set_cons_succ]
        rfl
      refine rg_take (i := 8) (N := (some 27)) (v := ?_) (a' := ?_) #[true, true, true, true, true, true, true, true, true, false] rfl rfl (by kernel_rfl) (fun _ _ _ h => h) (by rfl) ?_ hHeld ?_ ?_
      rotate_left 2
      · rintro w' _s
        go_simp
        try with_reducible rfl
      · simp only [Act.put, List.setIfInBounds_toArray, List.set_cons_zero, List.set_cons_succ]
        rfl
      refine rg_one (i := 9) #[true, true, true, true, true, true, true, true, true, true] rfl (by kernel_rfl) (by rfl) (fun K hK => ?_)
      repeat go_step
      refine hK.out _ _ ?_ (fun hHeld => ?_)
      · trivial
      clear hK K
      refine rg_done (by kernel_rfl) ?_
      go_wp2
      go_end0
      exact ⟨rfl, HV1.out.set 23 _, ((HFR.out.drew).tr' hb1).setCell (p := ⟨b, 23, none⟩) (fun _ => rfl) _⟩
    · skip
      repeat go_step
      ((with_reducible refine (HO.out _).mono ?_); rintro e w1 ⟨rfl, hb1⟩; have hv1 := HVA.out.drew.below hb1; have c2 := hv1.cell (i := 23) (by omega); have f2 := hv1.f 23; have HV1 := Lib.hid hv1; clear hv1)
      try dsimp only
      refine hK.out _ _ ?_ (fun hHeld => ?_)
      · trivial
      clear hK K
      refine rg_one (i := 3) #[true, true, true, true, true, true, false, false, false, false] rfl (by kernel_rfl) (by rfl) (fun K hK => ?_)
      repeat go_step
      (skip)
      try dsimp only
      refine hK.out _ _ ?_ (fun hHeld => ?_)
      · trivial
      clear hK K
      refine rg_take (i := 6) (N := (some 25)) (v := ?_) (a' := ?_) #[true, true, true, true, true, true, true, false, false, false] rfl rfl (by kernel_rfl) (fun _ _ _ h => h) (by rfl) ?_ hHeld ?_ ?_
      rotate_left 2
      · rintro w' _s
        go_simp
        try with_reducible rfl
      · simp only [Act.put, List.setIfInBounds_toArray, List.set_cons_zero, List.set_cons_succ]
        rfl
      refine rg_take (i := 7) (N := (some 26)) (v := ?_) (a' := ?_) #[true, true, true, true, true, true, true, true, false, false] rfl rfl (by kernel_rfl) (fun _ _ _ h => h) (by rfl) ?_ hHeld ?_ ?_
      rotate_left 2
      · rintro w' _s
        go_simp
        try with_reducible rfl
      · simp only [Act.put, List.setIfInBounds_toArray, List.set_cons_zero, List.set_cons_succ]
        rfl
      refine rg_take (i := 8) (N := (some 27)) (v := ?_) (a' := ?_) #[true, true, true, true, true, true, true, true, true, false] rfl rfl (by kernel_rfl) (fun _ _ _ h => h) (by rfl) ?_ hHeld ?_ ?_
      rotate_left 2
      · rintro w' _s
        go_simp
        try with_reducible rfl
      · simp only [Act.put, List.setIfInBounds_toArray, List.set_cons_zero, List.set_cons_succ]
        rfl
      refine rg_one (i := 9) #[true, true, true, true, true, true, true, true, true, true] rfl (by kernel_rfl) (by rfl) (fun K hK => ?_)
      repeat go_step
      refine hK.out _ _ ?_ (fun hHeld => ?_)
      · trivial
      clear hK K
      refine rg_done (by kernel_rfl) ?_
      go_wp2
      go_end0
      exact ⟨rfl, HV1.out.set 23 _, ((HFR.out.drew).tr' hb1).setCell (p := ⟨b, 23, none⟩) (fun _ => rfl) _⟩
theorem see_3 (b : Nat) (v : Nat → Int) (e : Ev) (w : World) (h : VAt 71 25 w b v) (hs : Small v) (hk : e.kind = 3) : Calls Try.prog 51 #[.pointer (some ⟨b, 0, none⟩), e.v] w
    fun e' w' => e' = .returned (.tuple #[]) ∧ VAt 71 25 w' b (fun i => v i + inc e i) ∧ Fr (fun k => k = b) w w' := by
  have hi2 : ∀ i, updI v 23 (v 23 + if e.err = 0 then 1 else 0) i = v i + inc e i := fun i => by
    unfold updI inc
    by_cases h1 : i = 23
    · subst h1
      simp [hk]
    · simp [h1, hk]
  rw [Ev.v_def, hk]
  exact (see_raw_3 b v _ _ _ _ _ _ _ _ _ _ _ _ _ _ _ _ _ _ _ _ e.err w h (hs 23 (by omega)).1 (hs 23 (by omega)).2).mono fun e' w' ⟨he, hv, hf⟩ => ⟨he, hv.eq hi2, hf⟩
set_option maxHeartbeats 1000000 in
set_option maxRecDepth 100000 in
theorem see_raw_4 (b : Nat) (v : Nat → Int) (x1 x2 x3 x4 x5 x6 x7 x8 x10 x11 x12 x13 x14 x15 x16 x17 x18 x19 x20 x21 : Value) (err : Int) (w : World) (h : VAt 71 25 w b v) (hs0 : 0 ≤ v 24) (hs1 : v 24 ≤ 1152921504606846970) : Calls Try.prog 51 #[.pointer (some ⟨b, 0, none⟩), .agg #[.int .i64 4, x1, x2, x3, x4, x5, x6, x7, x8, .int .i64 err, x10, x11, x12, x13, x14, x15, x16, x17, x18, x19, x20, x21]] w
    fun e' w' => e' = .returned (.tuple #[]) ∧ VAt 71 25 w' b (updI v 24 (v 24 + if err = 0 then 1 else 0)) ∧ Fr (fun k => k = b) w w' := by
  have hone := fun W => one_any (.int .i64 4) x1 x2 x3 x4 x5 x6 x7 x8 x10 x11 x12 x13 x14 x15 x16 x17 x18 x19 x20 x21 err W
  have hr : 0 ≤ (if err = 0 then (1 : Int) else 0) ∧ (if err = 0 then (1 : Int) else 0) ≤ 1 := by split <;> omega
  generalize (if err = 0 then (1 : Int) else 0) = r at hone hr ⊢
  obtain ⟨hr0, hr1⟩ := hr
  have c0 := h.cell (i := 24) (by omega)
  have f0 := h.f 24
  have hbl := h.lt
  have HO := Lib.hid hone
  have H0 := Lib.hid h
  clear hone h
  go_enter Try.func51, Try.ntmps51
  go_wp2
  have hR : (w.alloc (.cells #[.int .i64 4, x1, x2, x3, x4, x5, x6, x7, x8, .int .i64 err, x10, x11, x12, x13, x14, x15, x16, x17, x18, x19, x20, x21] 67)).rangeAt w.heap.size 0 [.int .i64 4, x1, x2, x3, x4, x5, x6, x7, x8, .int .i64 err, x10, x11, x12, x13, x14, x15, x16, x17, x18, x19, x20, x21] := fun j u hj => by rw [Nat.zero_add]; exact box_cells w _ _ j u (by simpa using hj)
  have hva := H0.out.fr ((Fr.refl (fun _ => False) w).alloc (.cells #[.int .i64 4, x1, x2, x3, x4, x5, x6, x7, x8, .int .i64 err, x10, x11, x12, x13, x14, x15, x16, x17, x18, x19, x20, x21] 67)) id
  have hsz : (w.alloc (.cells #[.int .i64 4, x1, x2, x3, x4, x5, x6, x7, x8, .int .i64 err, x10, x11, x12, x13, x14, x15, x16, x17, x18, x19, x20, x21] 67)).heap.size = w.heap.size + 1 := by simp
  have hfr := (Fr.refl (fun k => k = b) w).alloc (.cells #[.int .i64 4, x1, x2, x3, x4, x5, x6, x7, x8, .int .i64 err, x10, x11, x12, x13, x14, x15, x16, x17, x18, x19, x20, x21] 67)
  generalize w.alloc (.cells #[.int .i64 4, x1, x2, x3, x4, x5, x6, x7, x8, .int .i64 err, x10, x11, x12, x13, x14, x15, x16, x17, x18, x19, x20, x21] 67) = W at *
  have c1 := hva.cell (i := 24) (by omega)
  have f1 := hva.f 24
  have HR := Lib.hid hR
  clear hR
  have HVA := Lib.hid hva
  have HFR := Lib.hid hfr
  clear hva hfr c0 f0
  refine rg_start (n := 10) (fun w' => True) #[false, false, false, false, false, false, false, false, false, false] (by kernel_rfl) rfl rfl trivial (fun hHeld => ?_)
  refine rg_take (i := 0) (N := (some 31)) (v := ?_) (a' := ?_) #[true, false, false, false, false, false, false, false, false, false] rfl rfl (by kernel_rfl) (fun _ _ _ h => h) (by rfl) ?_ hHeld ?_ ?_
  rotate_left 2
  · rintro w' _s
    go_simp
    try with_reducible rfl
  · simp only [Act.put, List.setIfInBounds_toArray, List.set_cons_zero, List.set_cons_succ]
    rfl
  refine rg_take (i := 1) (N := (some 32)) (v := ?_) (a' := ?_) #[true, true, false, false, false, false, false, false, false, false] rfl rfl (by kernel_rfl) (fun _ _ _ h => h) (by rfl) ?_ hHeld ?_ ?_
  rotate_left 2
  · rintro w' _s
    go_simp
    try with_reducible rfl
  · simp only [Act.put, List.setIfInBounds_toArray, List.set_cons_zero, List.set_cons_succ]
    rfl
  refine rg_take (i := 2) (N := (some 33)) (v := ?_) (a' := ?_) #[true, true, true, false, false, false, false, false, false, false] rfl rfl (by kernel_rfl) (fun _ _ _ h => h) (by rfl) ?_ hHeld ?_ ?_
  rotate_left 2
  · rintro w' _s
    go_simp
    try with_reducible rfl
  · simp only [Act.put, List.setIfInBounds_toArray, List.set_cons_zero, List.set_cons_succ]
    rfl
  refine rg_two (i := 3) (j := 4) #[true, true, true, true, false, false, false, false, false, false] #[true, true, true, false, true, false, false, false, false, false] rfl rfl (by kernel_rfl) (by rfl) (by rfl) (fun K hK => ?_) (fun K hK => ?_)
  · skip
    repeat go_step
    (skip)
    try dsimp only
    refine hK.out _ _ ?_ (fun hHeld => ?_)
    · trivial
    clear hK K
    refine rg_one (i := 4) #[true, true, true, true, true, false, false, false, false, false] rfl (by kernel_rfl) (by rfl) (fun K hK => ?_)
    (refine wp_load_mid 67 (Operand.tmp 3) rfl w.heap.size 0 rfl _ _ HR.out Try.underlying67 rfl (by kernel_rfl) ?_)
    repeat go_step
    refine hK.out _ _ ?_ (fun hHeld => ?_)
    · trivial
    clear hK K
    refine rg_one (i := 5) #[true, true, true, true, true, true, false, false, false, false] rfl (by kernel_rfl) (by rfl) (fun K hK => ?_)
    repeat go_step
    ((with_reducible refine (HO.out _).mono ?_); rintro e w1 ⟨rfl, hb1⟩; have hv1 := HVA.out.drew.below hb1; have c2 := hv1.cell (i := 24) (by omega); have f2 := hv1.f 24; have HV1 := Lib.hid hv1; clear hv1)
    try dsimp only
    refine hK.out _ _ ?_ (fun hHeld => ?_)
    · trivial
    clear hK K
    refine rg_take (i := 6) (N := (some 37)) (v := ?_) (a' := ?_) #[true, true, true, true, true, true, true, false, false, false] rfl rfl (by kernel_rfl) (fun _ _ _ h => h) (by rfl) ?_ hHeld ?_ ?_
    rotate_left 2
    · rintro w' _s
      go_simp
      try with_reducible rfl
    · simp only [Act.put, List.setIfInBounds_toArray, List.set_cons_zero, List.set_cons_succ]
      rfl
    refine rg_take (i := 7) (N := (some 38)) (v := ?_) (a' := ?_) #[true, true, true, true, true, true, true, true, false, false] rfl rfl (by kernel_rfl) (fun _ _ _ h => h) (by rfl) ?_ hHeld ?_ ?_
    rotate_left 2
    · rintro w' _s
      go_simp
      try with_reducible rfl
    · simp only [Act.put, List.setIfInBounds_toArray, List.set_cons_zero, List.set_cons_succ]
      rfl
    refine rg_take (i := 8) (N := (some 39)) (v := ?_) (a' := ?_) #[true, true, true, true, true, true, true, true, true, false] rfl rfl (by kernel_rfl) (fun _ _ _ h => h) (by rfl) ?_ hHeld ?_ ?_
    rotate_left 2
    · rintro w' _s
      go_simp
      try with_reducible rfl
    · simp only [Act.put, List.setIfInBounds_toArray, List.set_cons_zero, List.set_cons_succ]
      rfl
    refine rg_one (i := 9) #[true, true, true, true, true, true, true, true, true, true] rfl (by kernel_rfl) (by rfl) (fun K hK => ?_)
    repeat go_step
    refine hK.out _ _ ?_ (fun hHeld => ?_)
    · trivial
    clear hK K
    refine rg_done (by kernel_rfl) ?_
    go_wp2
    go_end0
    exact ⟨rfl, HV1.out.set 24 _, ((HFR.out.drew).tr' hb1).setCell (p := ⟨b, 24, none⟩) (fun _ => rfl) _⟩
  · skip
    (refine wp_load_mid 67 (Operand.tmp 3) rfl w.heap.size 0 rfl _ _ HR.out Try.underlying67 rfl (by kernel_rfl) ?_)
    repeat go_step
    refine hK.out _ _ ?_ (fun hHeld => ?_)
    · trivial
    clear hK K
    refine rg_two (i := 3) (j := 5) #[true, true, true, true, true, false, false, false, false, false] #[true, true, true, false, true, true, false, false, false, false] rfl rfl (by kernel_rfl) (by rfl) (by rfl) (fun K hK => ?_) (fun K hK => ?_)
    · skip
      repeat go_step
      (skip)
      try dsimp only
      refine hK.out _ _ ?_ (fun hHeld => ?_)
      · trivial
      clear hK K
      refine rg_one (i := 5) #[true, true, true, true, true, true, false, false, false, false] rfl (by kernel_rfl) (by rfl) (fun K hK => ?_)
      repeat go_step
      ((with_reducible refine (HO.out _).mono ?_); rintro e w1 ⟨rfl, hb1⟩; have hv1 := HVA.out.drew.below hb1; have c2 := hv1.cell (i := 24) (by omega); have f2 := hv1.f 24; have HV1 := Lib.hid hv1; clear hv1)
      try dsimp only
      refine hK.out _ _ ?_ (fun hHeld => ?_)
      · trivial
      clear hK K
      refine rg_take (i := 6) (N := (some 37)) (v := ?_) (a' := ?_) #[true, true, true, true, true, true, true, false, false, false] rfl rfl (by kernel_rfl) (fun _ _ _ h => h) (by rfl) ?_ hHeld ?_ ?_
      rotate_left 2
      · rintro w' _s
        go_simp
        try with_reducible rfl
      · simp only [Act.put, List.setIfInBounds_toArray, List.set_cons_zero, List.set_cons_succ]
        rfl
      refine rg_take (i := 7) (N := (some 38)) (v := ?_) (a' := ?_) #[true, true, true, true, true, true, true, true, false, false] rfl rfl (by kernel_rfl) (fun _ _ _ h => h) (by rfl) ?_ hHeld ?_ ?_
      rotate_left 2
      · rintro w' _s
        go_simp
        try with_reducible rfl
      · simp only [Act.put, List.setIfInBounds_toArray, List.set_cons_zero, List.set_cons_succ]
        rfl
      refine rg_take (i := 8) (N := (some 39)) (v := ?_) (a' := ?_) #[true, true, true, true, true, true, true, true, true, false] rfl rfl (by kernel_rfl) (fun _ _ _ h => h) (by rfl) ?_ hHeld ?_ ?_
      rotate_left 2
      · rintro w' _s
        go_simp
        try with_reducible rfl
      · simp only [Act.put, List.setIfInBounds_toArray, List.set_cons_zero, List.set_cons_succ]
        rfl
      refine rg_one (i := 9) #[true, true, true, true, true, true, true, true, true, true] rfl (by kernel_rfl) (by rfl) (fun K hK => ?_)
      repeat go_step
      refine hK.out _ _ ?_ (fun hHeld => ?_)
      · trivial
      clear hK K
      refine rg_done (by kernel_rfl) ?_
      go_wp2
      go_end0
      exact ⟨rfl, HV1.out.set 24 _, ((HFR.out.drew).tr' hb1).setCell (p := ⟨b, 24, none⟩) (fun _ => rfl) _⟩
    · skip
      repeat go_step
      ((with_reducible refine (HO.out _).mono ?_); rintro e w1 ⟨rfl, hb1⟩; have hv1 := HVA.out.drew.below hb1; have c2 := hv1.cell (i := 24) (by omega); have f2 := hv1.f 24; have HV1 := Lib.hid hv1; clear hv1)
      try dsimp only
      refine hK.out _ _ ?_ (fun hHeld => ?_)
      · trivial
      clear hK K
      refine rg_one (i := 3) #[true, true, true, true, true, true, false, false, false, false] rfl (by kernel_rfl) (by rfl) (fun K hK => ?_)
      repeat go_step
      (skip)
      try dsimp only
      refine hK.out _ _ ?_ (fun hHeld => ?_)
      · trivial
      clear hK K
      refine rg_take (i := 6) (N := (some 37)) (v := ?_) (a' := ?_) #[true, true, true, true, true, true, true, false, false, false] rfl rfl (by kernel_rfl) (fun _ _ _ h => h) (by rfl) ?_ hHeld ?_ ?_
      rotate_left 2
      · rintro w' _s
        go_simp
        try with_reducible rfl
      · simp only [Act.put, List.setIfInBounds_toArray, List.set_cons_zero, List.set_cons_succ]
        rfl
      refine rg_take (i := 7) (N := (some 38)) (v := ?_) (a' := ?_) #[true, true, true, true, true, true, true, true, false, false] rfl rfl (by kernel_rfl) (fun _ _ _ h => h) (by rfl) ?_ hHeld ?_ ?_
      rotate_left 2
      · rintro w' _s
        go_simp
        try with_reducible rfl
      · simp only [Act.put, List.setIfInBounds_toArray, List.set_cons_zero, List.set_cons_succ]
        rfl
      refine rg_take (i := 8) (N := (some 39)) (v := ?_) (a' := ?_) #[true, true, true, true, true, true, true, true, true, false] rfl rfl (by kernel_rfl) (fun _ _ _ h => h) (by rfl) ?_ hHeld ?_ ?_
      rotate_left 2
      · rintro w' _s
        go_simp
        try with_reducible rfl
      · simp only [Act.put, List.setIfInBounds_toArray, List.set_cons_zero, List.set_cons_succ]
        rfl
      refine rg_one (i := 9) #[true, true, true, true, true, true, true, true, true, true] rfl (by kernel_rfl) (by rfl) (fun K hK => ?_)
      repeat go_step
      refine hK.out _ _ ?_ (fun hHeld => ?_)
      · trivial
      clear hK K
      refine rg_done (by kernel_rfl) ?_
      go_wp2
      go_end0
      exact ⟨rfl, HV1.out.set 24 _, ((HFR.out.drew).tr' hb1).setCell (p := ⟨b, 24, none⟩) (fun _ => rfl) _⟩
theorem see_4 (b : Nat) (v : Nat → Int) (e : Ev) (w : World) (h : VAt 71 25 w b v) (hs : Small v) (hk : e.kind = 4) : Calls Try.prog 51 #[.pointer (some ⟨b, 0, none⟩), e.v] w
    fun e' w' => e' = .returned (.tuple #[]) ∧ VAt 71 25 w' b (fun i => v i + inc e i) ∧ Fr (fun k => k = b) w w' := by
  have hi2 : ∀ i, updI v 24 (v 24 + if e.err = 0 then 1 else 0) i = v i + inc e i := fun i => by
    unfold updI inc
    by_cases h1 : i = 24
    · subst h1
      simp [hk]
    · simp [h1, hk]
  rw [Ev.v_def, hk]
  exact (see_raw_4 b v _ _ _ _ _ _ _ _ _ _ _ _ _ _ _ _ _ _ _ _ e.err w h (hs 24 (by omega)).1 (hs 24 (by omega)).2).mono fun e' w' ⟨he, hv, hf⟩ => ⟨he, hv.eq hi2, hf⟩
set_option maxHeartbeats 1000000 in
set_option maxRecDepth 100000 in
theorem see_raw_5 (b : Nat) (v : Nat → Int) (x1 x2 x3 x4 x5 x6 x7 x8 x10 x11 x12 x13 x14 x15 x16 x17 x18 x19 x20 x21 : Value) (err : Int) (w : World) (h : VAt 71 25 w b v) (hs0 : 0 ≤ v 24) (hs1 : v 24 ≤ 1152921504606846970) : Calls Try.prog 51 #[.pointer (some ⟨b, 0, none⟩), .agg #[.int .i64 5, x1, x2, x3, x4, x5, x6, x7, x8, .int .i64 err, x10, x11, x12, x13, x14, x15, x16, x17, x18, x19, x20, x21]] w
    fun e' w' => e' = .returned (.tuple #[]) ∧ VAt 71 25 w' b (updI v 24 (v 24 + if err = 0 then 1 else 0)) ∧ Fr (fun k => k = b) w w' := by
  have hone := fun W => one_any (.int .i64 5) x1 x2 x3 x4 x5 x6 x7 x8 x10 x11 x12 x13 x14 x15 x16 x17 x18 x19 x20 x21 err W
  have hr : 0 ≤ (if err = 0 then (1 : Int) else 0) ∧ (if err = 0 then (1 : Int) else 0) ≤ 1 := by split <;> omega
  generalize (if err = 0 then (1 : Int) else 0) = r at hone hr ⊢
  obtain ⟨hr0, hr1⟩ := hr
  have c0 := h.cell (i := 24) (by omega)
  have f0 := h.f 24
  have hbl := h.lt
  have HO := Lib.hid hone
  have H0 := Lib.hid h
  clear hone h
  go_enter Try.func51, Try.ntmps51
  go_wp2
  have hR : (w.alloc (.cells #[.int .i64 5, x1, x2, x3, x4, x5, x6, x7, x8, .int .i64 err, x10, x11, x12, x13, x14, x15, x16, x17, x18, x19, x20, x21] 67)).rangeAt w.heap.size 0 [.int .i64 5, x1, x2, x3, x4, x5, x6, x7, x8, .int .i64 err, x10, x11, x12, x13, x14, x15, x16, x17, x18, x19, x20, x21] := fun j u hj => by rw [Nat.zero_add]; exact box_cells w _ _ j u (by simpa using hj)
  have hva := H0.out.fr ((Fr.refl (fun _ => False) w).alloc (.cells #[.int .i64 5, x1, x2, x3, x4, x5, x6, x7, x8, .int .i64 err, x10, x11, x12, x13, x14, x15, x16, x17, x18, x19, x20, x21] 67)) id
  have hsz : (w.alloc (.cells #[.int .i64 5, x1, x2, x3, x4, x5, x6, x7, x8, .int .i64 err, x10, x11, x12, x13, x14, x15, x16, x17, x18, x19, x20, x21] 67)).heap.size = w.heap.size + 1 := by simp
  have hfr := (Fr.refl (fun k => k = b) w).alloc (.cells #[.int .i64 5, x1, x2, x3, x4, x5, x6, x7, x8, .int .i64 err, x10, x11, x12, x13, x14, x15, x16, x17, x18, x19, x20, x21] 67)
  generalize w.alloc (.cells #[.int .i64 5, x1, x2, x3, x4, x5, x6, x7, x8, .int .i64 err, x10, x11, x12, x13, x14, x15, x16, x17, x18, x19, x20, x21] 67) = W at *
  have c1 := hva.cell (i := 24) (by omega)
  have f1 := hva.f 24
  have HR := Lib.hid hR
  clear hR
  have HVA := Lib.hid hva
  have HFR := Lib.hid hfr
  clear hva hfr c0 f0
  refine rg_start (n := 10) (fun w' => True) #[false, false, false, false, false, false, false, false, false, false] (by kernel_rfl) rfl rfl trivial (fun hHeld => ?_)
  refine rg_take (i := 0) (N := (some 31)) (v := ?_) (a' := ?_) #[true, false, false, false, false, false, false, false, false, false] rfl rfl (by kernel_rfl) (fun _ _ _ h => h) (by rfl) ?_ hHeld ?_ ?_
  rotate_left 2
  · rintro w' _s
    go_simp
    try with_reducible rfl
  · simp only [Act.put, List.setIfInBounds_toArray, List.set_cons_zero, List.set_cons_succ]
    rfl
  refine rg_take (i := 1) (N := (some 32)) (v := ?_) (a' := ?_) #[true, true, false, false, false, false, false, false, false, false] rfl rfl (by kernel_rfl) (fun _ _ _ h => h) (by rfl) ?_ hHeld ?_ ?_
  rotate_left 2
  · rintro w' _s
    go_simp
    try with_reducible rfl
  · simp only [Act.put, List.setIfInBounds_toArray, List.set_cons_zero, List.set_cons_succ]
    rfl
  refine rg_take (i := 2) (N := (some 33)) (v := ?_) (a' := ?_) #[true, true, true, false, false, false, false, false, false, false] rfl rfl (by kernel_rfl) (fun _ _ _ h => h) (by rfl) ?_ hHeld ?_ ?_
  rotate_left 2
  · rintro w' _s
    go_simp
    try with_reducible rfl
  · simp only [Act.put, List.setIfInBounds_toArray, List.set_cons_zero, List.set_cons_succ]
    rfl
  refine rg_two (i := 3) (j := 4) #[true, true, true, true, false, false, false, false, false, false] #[true, true, true, false, true, false, false, false, false, false] rfl rfl (by kernel_rfl) (by rfl) (by rfl) (fun K hK => ?_) (fun K hK => ?_)
  · skip
    repeat go_step
    (skip)
    try dsimp only
    refine hK.out _ _ ?_ (fun hHeld => ?_)
    · trivial
    clear hK K
    refine rg_one (i := 4) #[true, true, true, true, true, false, false, false, false, false] rfl (by kernel_rfl) (by rfl) (fun K hK => ?_)
    (refine wp_load_mid 67 (Operand.tmp 3) rfl w.heap.size 0 rfl _ _ HR.out Try.underlying67 rfl (by kernel_rfl) ?_)
    repeat go_step
    refine hK.out _ _ ?_ (fun hHeld => ?_)
    · trivial
    clear hK K
    refine rg_one (i := 5) #[true, true, true, true, true, true, false, false, false, false] rfl (by kernel_rfl) (by rfl) (fun K hK => ?_)
    repeat go_step
    ((with_reducible refine (HO.out _).mono ?_); rintro e w1 ⟨rfl, hb1⟩; have hv1 := HVA.out.drew.below hb1; have c2 := hv1.cell (i := 24) (by omega); have f2 := hv1.f 24; have HV1 := Lib.hid hv1; clear hv1)
    try dsimp only
    refine hK.out _ _ ?_ (fun hHeld => ?_)
    · trivial
    clear hK K
    refine rg_take (i := 6) (N := (some 37)) (v := ?_) (a' := ?_) #[true, true, true, true, true, true, true, false, false, false] rfl rfl (by kernel_rfl) (fun _ _ _ h => h) (by rfl) ?_ hHeld ?_ ?_
    rotate_left 2
    · rintro w' _s
      go_simp
      try with_reducible rfl
    · simp only [Act.put, List.setIfInBounds_toArray, List.set_cons_zero, List.set_cons_succ]
      rfl
    refine rg_take (i := 7) (N := (some 38)) (v := ?_) (a' := ?_) #[true, true, true, true, true, true, true, true, false, false] rfl rfl (by kernel_rfl) (fun _ _ _ h => h) (by rfl) ?_ hHeld ?_ ?_
    rotate_left 2
    · rintro w' _s
      go_simp
      try with_reducible rfl
    · simp only [Act.put, List.setIfInBounds_toArray, List.set_cons_zero, List.set_cons_succ]
      rfl
    refine rg_take (i := 8) (N := (some 39)) (v := ?_) (a' := ?_) #[true, true, true, true, true, true, true, true, true, false] rfl rfl (by kernel_rfl) (fun _ _ _ h => h) (by rfl) ?_ hHeld ?_ ?_
    rotate_left 2
    · rintro w' _s
      go_simp
      try with_reducible rfl
    · simp only [Act.put, List.setIfInBounds_toArray, List.set_cons_zero, List.set_cons_succ]
      rfl
    refine rg_one (i := 9) #[true, true, true, true, true, true, true, true, true, true] rfl (by kernel_rfl) (by rfl) (fun K hK => ?_)
    repeat go_step
    refine hK.out _ _ ?_ (fun hHeld => ?_)
    · trivial
    clear hK K
    refine rg_done (by kernel_rfl) ?_
    go_wp2
    go_end0
    exact ⟨rfl, HV1.out.set 24 _, ((HFR.out.drew).tr' hb1).setCell (p := ⟨b, 24, none⟩) (fun _ => rfl) _⟩
  · skip
    (refine wp_load_mid 67 (Operand.tmp 3) rfl w.heap.size 0 rfl _ _ HR.out Try.underlying67 rfl (by kernel_rfl) ?_)
    repeat go_step
    refine hK.out _ _ ?_ (fun hHeld => ?_)
    · trivial
    clear hK K
    refine rg_two (i := 3) (j := 5) #[true, true, true, true, true, false, false, false, false, false] #[true, true, true, false, true, true, false, false, false, false] rfl rfl (by kernel_rfl) (by rfl) (by rfl) (fun K hK => ?_) (fun K hK => ?_)
    · skip
      repeat go_step
      (skip)
      try dsimp only
      refine hK.out _ _ ?_ (fun hHeld => ?_)
      · trivial
      clear hK K
      refine rg_one (i := 5) #[true, true, true, true, true, true, false, false, false, false] rfl (by kernel_rfl) (by rfl) (fun K hK => ?_)
      repeat go_step
      ((with_reducible refine (HO.out _).mono ?_); rintro e w1 ⟨rfl, hb1⟩; have hv1 := HVA.out.drew.below hb1; have c2 := hv1.cell (i := 24) (by omega); have f2 := hv1.f 24; have HV1 := Lib.hid hv1; clear hv1)
      try dsimp only
      refine hK.out _ _ ?_ (fun hHeld => ?_)
      · trivial
      clear hK K
      refine rg_take (i := 6) (N := (some 37)) (v := ?_) (a' := ?_) #[true, true, true, true, true, true, true, false, false, false] rfl rfl (by kernel_rfl) (fun _ _ _ h => h) (by rfl) ?_ hHeld ?_ ?_
      rotate_left 2
      · rintro w' _s
        go_simp
        try with_reducible rfl
      · simp only [Act.put, List.setIfInBounds_toArray, List.set_cons_zero, List.set_cons_succ]
        rfl
      refine rg_take (i := 7) (N := (some 38)) (v := ?_) (a' := ?_) #[true, true, true, true, true, true, true, true, false, false] rfl rfl (by kernel_rfl) (fun _ _ _ h => h) (by rfl) ?_ hHeld ?_ ?_
      rotate_left 2
      · rintro w' _s
        go_simp
        try with_reducible rfl
      · simp only [Act.put, List.setIfInBounds_toArray, List.set_cons_zero, List.set_cons_succ]
        rfl
      refine rg_take (i := 8) (N := (some 39)) (v := ?_) (a' := ?_) #[true, true, true, true, true, true, true, true, true, false] rfl rfl (by kernel_rfl) (fun _ _ _ h => h) (by rfl) ?_ hHeld ?_ ?_
      rotate_left 2
      · rintro w' _s
        go_simp
        try with_reducible rfl
      · simp only [Act.put, List.setIfInBounds_toArray, List.set_cons_zero, List.set_cons_succ]
        rfl
      refine rg_one (i := 9) #[true, true, true, true, true, true, true, true, true, true] rfl (by kernel_rfl) (by rfl) (fun K hK => ?_)
      repeat go_step
      refine hK.out _ _ ?_ (fun hHeld => ?_)
      · trivial
      clear hK K
      refine rg_done (by kernel_rfl) ?_
      go_wp2
      go_end0
      exact ⟨rfl, HV1.out.set 24 _, ((HFR.out.drew).tr' hb1).setCell (p := ⟨b, 24, none⟩) (fun _ => rfl) _⟩
    · skip
      repeat go_step
      ((with_reducible refine (HO.out _).mono ?_); rintro e w1 ⟨rfl, hb1⟩; have hv1 := HVA.out.drew.below hb1; have c2 := hv1.cell (i := 24) (by omega); have f2 := hv1.f 24; have HV1 := Lib.hid hv1; clear hv1)
      try dsimp only
      refine hK.out _ _ ?_ (fun hHeld => ?_)
      · trivial
      clear hK K
      refine rg_one (i := 3) #[true, true, true, true, true, true, false, false, false, false] rfl (by kernel_rfl) (by rfl) (fun K hK => ?_)
      repeat go_step
      (skip)
      try dsimp only
      refine hK.out _ _ ?_ (fun hHeld => ?_)
      · trivial
      clear hK K
      refine rg_take (i := 6) (N := (some 37)) (v := ?_) (a' := ?_) #[true, true, true, true, true, true, true, false, false, false] rfl rfl (by kernel_rfl) (fun _ _ _ h => h) (by rfl) ?_ hHeld ?_ ?_
      rotate_left 2
      · rintro w' _s
        go_simp
        try with_reducible rfl
      · simp only [Act.put, List.setIfInBounds_toArray, List.set_cons_zero, List.set_cons_succ]
        rfl
      refine rg_take (i := 7) (N := (some 38)) (v := ?_) (a' := ?_) #[true, true, true, true, true, true, true, true, false, false] rfl rfl (by kernel_rfl) (fun _ _ _ h => h) (by rfl) ?_ hHeld ?_ ?_
      rotate_left 2
      · rintro w' _s
        go_simp
        try with_reducible rfl
      · simp only [Act.put, List.setIfInBounds_toArray, List.set_cons_zero, List.set_cons_succ]
        rfl
      refine rg_take (i := 8) (N := (some 39)) (v := ?_) (a' := ?_) #[true, true, true, true, true, true, true, true, true, false] rfl rfl (by kernel_rfl) (fun _ _ _ h => h) (by rfl) ?_ hHeld ?_ ?_
      rotate_left 2
      · rintro w' _s
        go_simp
        try with_reducible rfl
      · simp only [Act.put, List.setIfInBounds_toArray, List.set_cons_zero, List.set_cons_succ]
        rfl
      refine rg_one (i := 9) #[true, true, true, true, true, true, true, true, true, true] rfl (by kernel_rfl) (by rfl) (fun K hK => ?_)
      repeat go_step
      refine hK.out _ _ ?_ (fun hHeld => ?_)
      · trivial
      clear hK K
      refine rg_done (by kernel_rfl) ?_
      go_wp2
      go_end0
      exact ⟨rfl, HV1.out.set 24 _, ((HFR.out.drew).tr' hb1).setCell (p := ⟨b, 24, none⟩) (fun _ => rfl) _⟩
theorem see_5 (b : Nat) (v : Nat → Int) (e : Ev) (w : World) (h : VAt 71 25 w b v) (hs : Small v) (hk : e.kind = 5) : Calls Try.prog 51 #[.pointer (some ⟨b, 0, none⟩), e.v] w
    fun e' w' => e' = .returned (.tuple #[]) ∧ VAt 71 25 w' b (fun i => v i + inc e i) ∧ Fr (fun k => k = b) w w' := by
  have hi2 : ∀ i, updI v 24 (v 24 + if e.err = 0 then 1 else 0) i = v i + inc e i := fun i => by
    unfold updI inc
    by_cases h1 : i = 24
    · subst h1
      simp [hk]
    · simp [h1, hk]
  rw [Ev.v_def, hk]
  exact (see_raw_5 b v _ _ _ _ _ _ _ _ _ _ _ _ _ _ _ _ _ _ _ _ e.err w h (hs 24 (by omega)).1 (hs 24 (by omega)).2).mono fun e' w' ⟨he, hv, hf⟩ => ⟨he, hv.eq hi2, hf⟩

set_option maxHeartbeats 1000000 in
set_option maxRecDepth 100000 in
theorem see_0 (b : Nat) (v : Nat → Int) (e : Ev) (w : World) (h : VAt 71 25 w b v) (hk : e.kind < 1 ∨ 5 < e.kind) : Calls Try.prog 51 #[.pointer (some ⟨b, 0, none⟩), e.v] w
    fun e' w' => e' = .returned (.tuple #[]) ∧ VAt 71 25 w' b (fun i => v i + inc e i) ∧ Fr (fun k => k = b) w w' := by
  have hi : ∀ i, v i = v i + inc e i := fun i => by unfold inc; rw [if_neg (by omega), if_neg (by omega), if_neg (by omega)]; omega
  obtain ⟨kind, ⟨ok, okey, oval, on, olo, ohi⟩, n, kA, kl, kc, err, has, val, iA, il, ic, st⟩ := e
  rw [Ev.v_def]
  dsimp only at hi hk ⊢
  generalize inc _ = J at hi ⊢
  have HI := Lib.hid hi
  have H0 := Lib.hid h
  have e1 : (kind == 1) = false := by simp; omega
  have e2 : (kind == 2) = false := by simp; omega
  have e3 : (kind == 3) = false := by simp; omega
  have e4 : (kind == 4) = false := by simp; omega
  have e5 : (kind == 5) = false := by simp; omega
  clear hi h
  go_enter Try.func51, Try.ntmps51
  go_wp2
  go_end0
  exact ⟨rfl, (H0.out.fr ((Fr.refl (fun _ => False) w).alloc _) id).eq HI.out, (Fr.refl _ w).alloc _⟩
theorem see_any (b : Nat) (v : Nat → Int) (e : Ev) (w : World) (h : VAt 71 25 w b v) (hs : Small v) (hg : e.good) : Calls Try.prog 51 #[.pointer (some ⟨b, 0, none⟩), e.v] w
    fun e' w' => e' = .returned (.tuple #[]) ∧ VAt 71 25 w' b (fun i => v i + inc e i) ∧ Fr (fun k => k = b) w w' := by
  by_cases h1 : e.kind = 1
  · exact see_1 b v e w h hs hg h1
  by_cases h2 : e.kind = 2
  · exact see_2 b v e w h hs h2
  by_cases h3 : e.kind = 3
  · exact see_3 b v e w h hs h3
  by_cases h4 : e.kind = 4
  · exact see_4 b v e w h hs h4
  by_cases h5 : e.kind = 5
  · exact see_5 b v e w h hs h5
  exact see_0 b v e w h (by omega)
end Go.Proofs.Ytdfgdnaejnngoaa
