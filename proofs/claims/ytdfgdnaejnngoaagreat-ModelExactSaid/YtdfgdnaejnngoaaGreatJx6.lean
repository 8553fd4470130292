import Derived.Test.YtdfgdnaejnngoaaGreatJx5
import Derived.Deep.WholeRow
import Derived.Deep.MidRow
set_option linter.unusedVariables false
set_option linter.unusedSimpArgs false
namespace Go.Proofs.YtdfgdnaejnngoaaGreat
open Go.RowKit
def MRow (bm : Nat) (N : Int) (s : Value) (w : World) : Prop := w.heap[bm]? = some (.cells (planA N ++ #[s]) 102 (0, 0))
theorem MRow.below {w w' : World} {bm : Nat} {N : Int} {s : Value} (h : MRow bm N s w) (hb : Below w.heap.size w w') : MRow bm N s w' := (Fr.of_below (S := fun _ => False) hb).row id h
theorem plan_cells {w : World} {bm : Nat} {N : Int} {s : Value} (h : MRow bm N s w) :
    w.cell? ⟨bm, 0, none⟩ = some (.int .i64 N) ∧ w.cell? ⟨bm, 1, none⟩ = some (.int .i64 (pLog N)) ∧ w.cell? ⟨bm, 2, none⟩ = some (.int .i64 (2 + pLog N)) ∧ w.cell? ⟨bm, 3, none⟩ = some (.int .i64 (pData N)) ∧ w.cell? ⟨bm, 4, none⟩ = some (.int .i64 (pHalf N)) ∧ w.cell? ⟨bm, 5, none⟩ = some (.int .i64 (pLeaves N)) ∧ w.cell? ⟨bm, 6, none⟩ = some (.int .i64 (pCap N)) ∧ w.cell? ⟨bm, 7, none⟩ = some s := by
  refine ⟨?_, ?_, ?_, ?_, ?_, ?_, ?_, ?_⟩ <;> (rw [Lib.cell_of_heap h]; rfl)
set_option maxHeartbeats 2000000 in
set_option maxRecDepth 100000 in
theorem update_any (bm g : Nat) (N : Int) (ls : List (List Itm)) (l : List Itm) (x : Mg) (w : World) (h : ModelAt w bm g N ls) (hl : ls[ls.length - 1]? = some l) (hn : ls.length ≤ 90000) (hln : l.length ≤ 60000) :
    Calls Tryz.prog 45 #[.pointer (some ⟨bm, 0, none⟩), x.v] w (UpdRes bm g N (errU (pCap N) l x) (rowsU (pCap N) ls l x) w) := by
  have hri : Rises l := by
    obtain ⟨_, _, _, _, _, _, _, _, _, _, _, hla⟩ := h.last hl
    exact hla.rises
  have hnow : ∀ W, Below w.heap.size w W → Calls Tryz.prog 48 #[.pointer (some ⟨bm, 0, none⟩)] W (NowRes l W) := fun W hW => now_any bm g N ls l W (h.below hW) hl (by omega)
  have hfi := fun p A c W (hla : LeafAt W p A c l) => find_any p c A l x.key W hla (by omega)
  rw [find_get _ hri] at hfi
  have hwi := fun p A c vb W (hla : LeafAt W p A c l) hx hv => with_one p c vb A l x W hla (by omega) hx hv
  have hlen : (doL l x).length ≤ 60001 := by have := put_len hri x.key (applyO x (getL l x.key)); unfold doL; omega
  obtain ⟨off, n, cap, ps, hrow, hra, hps, hlv⟩ := h.row
  have hpn := hra.len
  obtain ⟨E, hE⟩ : ∃ E, errU (pCap N) l x = E := ⟨_, rfl⟩
  obtain ⟨R, hR⟩ : ∃ R, rowsU (pCap N) ls l x = R := ⟨_, rfl⟩
  rw [hE, hR]
  have HU := Lib.hid hE
  have HR := Lib.hid hR
  clear hE hR
  have HM := Lib.hid h
  have HN := Lib.hid hnow
  have HF := Lib.hid hfi
  have HW := Lib.hid hwi
  have HRW := Lib.hid hrow
  have HRA := Lib.hid hra
  have HPS := Lib.hid hps
  have HLV := Lib.hid hlv
  have hxv := Mg.v_def x
  have hn' : n ≤ 90000 := by omega
  clear hnow hfi hwi h hl hri hrow hra hps hlv
  generalize hkd : x.kind = kind at *
  generalize hky : x.key = key at *
  generalize hvl : x.val = val at *
  rw [hxv]
  have HXV := Lib.hid hxv
  generalize hG : getL l key = G at *
  clear hxv
  go_enter Tryz.func45, Tryz.ntmps45
  go_wp2
  have B0 : Below w.heap.size w (w.alloc (.cells #[.int .i64 kind, .string key, .string val] 90)) := below_alloc (Below.refl _ w)
  have c0 : (w.alloc (.cells #[.int .i64 kind, .string key, .string val] 90)).cell? ⟨w.heap.size, 0, none⟩ = some (.int .i64 kind) := by rw [Lib.cell_of_heap (heap_alloc_new w _)]; rfl
  have c1 : (w.alloc (.cells #[.int .i64 kind, .string key, .string val] 90)).cell? ⟨w.heap.size, 1, none⟩ = some (.string key) := by rw [Lib.cell_of_heap (heap_alloc_new w _)]; rfl
  have c2 : (w.alloc (.cells #[.int .i64 kind, .string key, .string val] 90)).cell? ⟨w.heap.size, 2, none⟩ = some (.string val) := by rw [Lib.cell_of_heap (heap_alloc_new w _)]; rfl
  have hxl : w.heap.size < (w.alloc (.cells #[.int .i64 kind, .string key, .string val] 90)).heap.size := by simp
  refine rg_start (n := 10) (fun w' => Below w.heap.size w w' ∧ w'.cell? ⟨w.heap.size, 0, none⟩ = some (.int .i64 kind) ∧ w'.cell? ⟨w.heap.size, 1, none⟩ = some (.string key) ∧ w'.cell? ⟨w.heap.size, 2, none⟩ = some (.string val) ∧ w.heap.size < w'.heap.size) #[false, false, false, false, false, false, false, false, false, false] (by kernel_rfl) rfl rfl ⟨B0.drew, c0, c1, c2, hxl⟩ (fun hHeld => ?_)
  refine rg_take (i := 0) (N := (some 12)) (v := ?_) (a' := ?_) #[true, false, false, false, false, false, false, false, false, false] rfl rfl (by kernel_rfl) (fun _ _ _ h => h) (by rfl) ?_ hHeld ?_ ?_
  rotate_left 2
  · rintro w' ⟨s0, s1, s2, s3, s4⟩
    go_simp
    try with_reducible rfl
  · simp only [Act.put, List.setIfInBounds_toArray, List.set_cons_zero, List.set_cons_succ]
    rfl
  refine rg_take (i := 2) (N := (some 14)) (v := ?_) (a' := ?_) #[true, false, true, false, false, false, false, false, false, false] rfl rfl (by kernel_rfl) (fun _ _ _ h => h) (by rfl) ?_ hHeld ?_ ?_
  rotate_left 2
  · rintro w' ⟨s0, s1, s2, s3, s4⟩
    go_simp
    try with_reducible rfl
  · simp only [Act.put, List.setIfInBounds_toArray, List.set_cons_zero, List.set_cons_succ]
    rfl
  refine rg_take (i := 3) (N := (some 15)) (v := ?_) (a' := ?_) #[true, false, true, true, false, false, false, false, false, false] rfl rfl (by kernel_rfl) (fun _ _ _ h => h) (by rfl) ?_ hHeld ?_ ?_
  rotate_left 2
  · rintro w' ⟨s0, s1, s2, s3, s4⟩
    go_simp
    try with_reducible rfl
  · simp only [Act.put, List.setIfInBounds_toArray, List.set_cons_zero, List.set_cons_succ]
    rfl
  refine rg_one (i := 1) #[true, true, true, true, false, false, false, false, false, false] rfl (by kernel_rfl) (by rfl) (fun K hK => ?_)
  obtain ⟨s0, s1, s2, s3, s4⟩ := hHeld
  repeat go_step
  ((with_reducible refine (HN.out _ s0).mono ?_); rintro e w1 ⟨p, A, c, rfl, hla, hb1⟩)
  try dsimp only
  refine hK.out _ _ ?_ (fun hHeld => ?_)
  · (repeat (first | (with_reducible assumption) | (with_reducible apply And.intro) | (with_reducible refine keep_cell (w := ?_) ?_ ?_ ?_; rotate_left; with_reducible assumption) | (with_reducible refine keep_cell_alloc ?_ ?_) | (with_reducible refine keep_lt (w := ?_) ?_ ?_; rotate_left; with_reducible assumption) | (with_reducible refine keep_lt_alloc ?_) | (with_reducible refine below_next (w := ?_) ?_ ?_; rotate_left 2; with_reducible assumption) | (with_reducible refine below_alloc ?_) | (with_reducible refine Below.drew ?_) | (with_reducible refine keep_lt_drew ?_) | (with_reducible refine keep_cell_drew ?_)))
  clear hK K
  clear s0 s1 s2 s3 s4
  refine rg_one (i := 4) #[true, true, true, true, true, false, false, false, false, false] rfl (by kernel_rfl) (by rfl) (fun K hK => ?_)
  obtain ⟨s0, s1, s2, s3, s4⟩ := hHeld
  repeat go_step
  ((with_reducible refine (HF.out p A c _ hla).mono ?_); rintro e w2 ⟨rfl, hb2⟩)
  try dsimp only
  refine hK.out _ _ ?_ (fun hHeld => ?_)
  · (repeat (first | (with_reducible assumption) | (with_reducible apply And.intro) | (with_reducible refine keep_cell (w := ?_) ?_ ?_ ?_; rotate_left; with_reducible assumption) | (with_reducible refine keep_cell_alloc ?_ ?_) | (with_reducible refine keep_lt (w := ?_) ?_ ?_; rotate_left; with_reducible assumption) | (with_reducible refine keep_lt_alloc ?_) | (with_reducible refine below_next (w := ?_) ?_ ?_; rotate_left 2; with_reducible assumption) | (with_reducible refine below_alloc ?_) | (with_reducible refine Below.drew ?_) | (with_reducible refine keep_lt_drew ?_) | (with_reducible refine keep_cell_drew ?_)))
  clear hK K
  clear s0 s1 s2 s3 s4
  refine rg_take (i := 5) (N := (some 11)) (v := ?_) (a' := ?_) #[true, true, true, true, true, true, false, false, false, false] rfl rfl (by kernel_rfl) (fun _ _ _ h => h) (by rfl) ?_ hHeld ?_ ?_
  rotate_left 2
  · rintro w' ⟨s0, s1, s2, s3, s4⟩
    go_simp
    try with_reducible rfl
  · simp only [Act.put, List.setIfInBounds_toArray, List.set_cons_zero, List.set_cons_succ]
    rfl
  refine rg_take (i := 6) (N := (some 17)) (v := ?_) (a' := ?_) #[true, true, true, true, true, true, true, false, false, false] rfl rfl (by kernel_rfl) (fun _ _ _ h => h) (by rfl) ?_ hHeld ?_ ?_
  rotate_left 2
  · rintro w' ⟨s0, s1, s2, s3, s4⟩
    go_simp
    try with_reducible rfl
  · simp only [Act.put, List.setIfInBounds_toArray, List.set_cons_zero, List.set_cons_succ]
    rfl
  refine rg_take (i := 7) (N := (some 18)) (v := ?_) (a' := ?_) #[true, true, true, true, true, true, true, true, false, false] rfl rfl (by kernel_rfl) (fun _ _ _ h => h) (by rfl) ?_ hHeld ?_ ?_
  rotate_left 2
  · rintro w' ⟨s0, s1, s2, s3, s4⟩
    go_simp
    try with_reducible rfl
  · simp only [Act.put, List.setIfInBounds_toArray, List.set_cons_zero, List.set_cons_succ]
    rfl
  refine rg_take (i := 8) (N := (some 5)) (v := ?_) (a' := ?_) #[true, true, true, true, true, true, true, true, true, false] rfl rfl (by kernel_rfl) (fun _ _ _ h => h) (by rfl) ?_ hHeld ?_ ?_
  rotate_left 2
  · rintro w' ⟨s0, s1, s2, s3, s4⟩
    go_simp
    try with_reducible rfl
  · simp only [Act.put, List.setIfInBounds_toArray, List.set_cons_zero, List.set_cons_succ]
    rfl
  refine rg_take (i := 9) (N := (some 6)) (v := ?_) (a' := ?_) #[true, true, true, true, true, true, true, true, true, true] rfl rfl (by kernel_rfl) (fun _ _ _ h => h) (by rfl) ?_ hHeld ?_ ?_
  rotate_left 2
  · rintro w' ⟨s0, s1, s2, s3, s4⟩
    go_simp
    try with_reducible rfl
  · simp only [Act.put, List.setIfInBounds_toArray, List.set_cons_zero, List.set_cons_succ]
    rfl
  refine rg_done (by kernel_rfl) ?_
  obtain ⟨s0, s1, s2, s3, s4⟩ := hHeld
  go_wp2
  refine region_cut [20, 21, 22, 23, 24, 19, 25, 26, 7, 8] (fun vs w' => ∃ x0 x1 x2 x3 x4 x5 q r, vs = [x0, x1, x2, x3, x4, x5, q, .int .i64 r, q, .int .i64 r] ∧ ((isMsg x = false ∧ r = 1) ∨ (isMsg x = true ∧ r = 0 ∧ ∃ b' A' c', q = .pointer (some ⟨b', 0, none⟩) ∧ LeafAt w' b' A' c' (doL l x) ∧ w.heap.size ≤ b' ∧ ∀ ad, A' = some ad → w.heap.size ≤ ad.block)) ∧ Below w.heap.size w w' ∧ w'.cell? ⟨w.heap.size, 0, none⟩ = some (.int .i64 kind)) ?_ ?_
  · skip
    refine rg_start (n := 10) (fun w' => Below w.heap.size w w' ∧ w'.cell? ⟨w.heap.size, 0, none⟩ = some (.int .i64 kind) ∧ w'.cell? ⟨w.heap.size, 1, none⟩ = some (.string key) ∧ w'.cell? ⟨w.heap.size, 2, none⟩ = some (.string val) ∧ w.heap.size < w'.heap.size) #[false, false, false, false, false, false, false, false, false, false] (by kernel_rfl) rfl rfl ⟨s0.drew, s1, s2, s3, s4⟩ (fun hHeld => ?_)
    refine rg_take (i := 0) (N := (some 20)) (v := ?_) (a' := ?_) #[true, false, false, false, false, false, false, false, false, false] rfl rfl (by kernel_rfl) (fun _ _ _ h => h) (by rfl) ?_ hHeld ?_ ?_
    rotate_left 2
    · rintro w' ⟨s0, s1, s2, s3, s4⟩
      go_simp
      try with_reducible rfl
    · simp only [Act.put, List.setIfInBounds_toArray, List.set_cons_zero, List.set_cons_succ]
      rfl
    refine rg_take (i := 2) (N := (some 22)) (v := ?_) (a' := ?_) #[true, false, true, false, false, false, false, false, false, false] rfl rfl (by kernel_rfl) (fun _ _ _ h => h) (by rfl) ?_ hHeld ?_ ?_
    rotate_left 2
    · rintro w' ⟨s0, s1, s2, s3, s4⟩
      go_simp
      try with_reducible rfl
    · simp only [Act.put, List.setIfInBounds_toArray, List.set_cons_zero, List.set_cons_succ]
      rfl
    refine rg_two (i := 1) (j := 3) #[true, true, true, false, false, false, false, false, false, false] #[true, false, true, true, false, false, false, false, false, false] rfl rfl (by kernel_rfl) (by rfl) (by rfl) (fun K hK => ?_) (fun K hK => ?_)
    · skip
      obtain ⟨s0, s1, s2, s3, s4⟩ := hHeld
      repeat go_step
      ((with_reducible refine (HN.out _ s0).mono ?_); rintro e w3 ⟨p3, A3, c3, rfl, hla3, hb3⟩; (try have hx4 : ∀ j u, x.cells[j]? = some u → w3.cell? ⟨g4, j, none⟩ = some u := fun j u hu => keep_cell hb3 hg4 (hx4 j u hu)); (try have hg4 := keep_lt hb3 hg4))
      try dsimp only
      refine hK.out _ _ ?_ (fun hHeld => ?_)
      · (repeat (first | (with_reducible assumption) | (with_reducible apply And.intro) | (with_reducible refine keep_cell (w := ?_) ?_ ?_ ?_; rotate_left; with_reducible assumption) | (with_reducible refine keep_cell_alloc ?_ ?_) | (with_reducible refine keep_lt (w := ?_) ?_ ?_; rotate_left; with_reducible assumption) | (with_reducible refine keep_lt_alloc ?_) | (with_reducible refine below_next (w := ?_) ?_ ?_; rotate_left 2; with_reducible assumption) | (with_reducible refine below_alloc ?_) | (with_reducible refine Below.drew ?_) | (with_reducible refine keep_lt_drew ?_) | (with_reducible refine keep_cell_drew ?_)))
      clear hK K
      clear s0 s1 s2 s3 s4
      refine rg_one (i := 3) #[true, true, true, true, false, false, false, false, false, false] rfl (by kernel_rfl) (by rfl) (fun K hK => ?_)
      obtain ⟨s0, s1, s2, s3, s4⟩ := hHeld
      (refine oper_msg (some 23) rfl (Operand.tmp 22) x rfl HXV.out.symm ?_; intro g4 w4 hx4 hz4 hg4 hb4; (try have hla3 := hla3.below hb4); simp only [Act.put, List.setIfInBounds_toArray, List.set_cons_zero, List.set_cons_succ])
      repeat go_step
      refine hK.out _ _ ?_ (fun hHeld => ?_)
      · (repeat (first | (with_reducible assumption) | (with_reducible apply And.intro) | (with_reducible refine keep_cell (w := ?_) ?_ ?_ ?_; rotate_left; with_reducible assumption) | (with_reducible refine keep_cell_alloc ?_ ?_) | (with_reducible refine keep_lt (w := ?_) ?_ ?_; rotate_left; with_reducible assumption) | (with_reducible refine keep_lt_alloc ?_) | (with_reducible refine below_next (w := ?_) ?_ ?_; rotate_left 2; with_reducible assumption) | (with_reducible refine below_alloc ?_) | (with_reducible refine Below.drew ?_) | (with_reducible refine keep_lt_drew ?_) | (with_reducible refine keep_cell_drew ?_)))
      clear hK K
      clear s0 s1 s2 s3 s4
      refine rg_one (i := 4) #[true, true, true, true, true, false, false, false, false, false] rfl (by kernel_rfl) (by rfl) (fun K hK => ?_)
      obtain ⟨s0, s1, s2, s3, s4⟩ := hHeld
      repeat go_step
      ((with_reducible refine (HW.out p3 A3 c3 g4 _ hla3 hx4 hg4).mono ?_); rintro e w5 ⟨hb5, q, r, rfl, hres⟩; have hres : (isMsg x = false ∧ r = 1) ∨ (isMsg x = true ∧ r = 0 ∧ ∃ b' A' c', q = .pointer (some ⟨b', 0, none⟩) ∧ LeafAt w5 b' A' c' (doL l x) ∧ w.heap.size ≤ b' ∧ ∀ ad, A' = some ad → w.heap.size ≤ ad.block) := (by have hsz := s0.size; rcases hres with hres | ⟨h1, h2, b', A', c', h3, h4, h5, h6⟩; exact .inl hres; exact .inr ⟨h1, h2, b', A', c', h3, h4, Nat.le_trans hsz h5, fun ad e => Nat.le_trans hsz (h6 ad e)⟩))
      try dsimp only
      refine hK.out _ _ ?_ (fun hHeld => ?_)
      · (repeat (first | (with_reducible assumption) | (with_reducible apply And.intro) | (with_reducible refine keep_cell (w := ?_) ?_ ?_ ?_; rotate_left; with_reducible assumption) | (with_reducible refine keep_cell_alloc ?_ ?_) | (with_reducible refine keep_lt (w := ?_) ?_ ?_; rotate_left; with_reducible assumption) | (with_reducible refine keep_lt_alloc ?_) | (with_reducible refine below_next (w := ?_) ?_ ?_; rotate_left 2; with_reducible assumption) | (with_reducible refine below_alloc ?_) | (with_reducible refine Below.drew ?_) | (with_reducible refine keep_lt_drew ?_) | (with_reducible refine keep_cell_drew ?_)))
      clear hK K
      clear s0 s1 s2 s3 s4
      refine rg_take (i := 5) (N := (some 19)) (v := ?_) (a' := ?_) #[true, true, true, true, true, true, false, false, false, false] rfl rfl (by kernel_rfl) (fun _ _ _ h => h) (by rfl) ?_ hHeld ?_ ?_
      rotate_left 2
      · rintro w' ⟨s0, s1, s2, s3, s4⟩
        go_simp
        try with_reducible rfl
      · simp only [Act.put, List.setIfInBounds_toArray, List.set_cons_zero, List.set_cons_succ]
        rfl
      refine rg_take (i := 6) (N := (some 25)) (v := ?_) (a' := ?_) #[true, true, true, true, true, true, true, false, false, false] rfl rfl (by kernel_rfl) (fun _ _ _ h => h) (by rfl) ?_ hHeld ?_ ?_
      rotate_left 2
      · rintro w' ⟨s0, s1, s2, s3, s4⟩
        go_simp
        try with_reducible rfl
      · simp only [Act.put, List.setIfInBounds_toArray, List.set_cons_zero, List.set_cons_succ]
        rfl
      refine rg_take (i := 7) (N := (some 26)) (v := ?_) (a' := ?_) #[true, true, true, true, true, true, true, true, false, false] rfl rfl (by kernel_rfl) (fun _ _ _ h => h) (by rfl) ?_ hHeld ?_ ?_
      rotate_left 2
      · rintro w' ⟨s0, s1, s2, s3, s4⟩
        go_simp
        try with_reducible rfl
      · simp only [Act.put, List.setIfInBounds_toArray, List.set_cons_zero, List.set_cons_succ]
        rfl
      refine rg_take (i := 8) (N := (some 7)) (v := ?_) (a' := ?_) #[true, true, true, true, true, true, true, true, true, false] rfl rfl (by kernel_rfl) (fun _ _ _ h => h) (by rfl) ?_ hHeld ?_ ?_
      rotate_left 2
      · rintro w' ⟨s0, s1, s2, s3, s4⟩
        go_simp
        try with_reducible rfl
      · simp only [Act.put, List.setIfInBounds_toArray, List.set_cons_zero, List.set_cons_succ]
        rfl
      refine rg_take (i := 9) (N := (some 8)) (v := ?_) (a' := ?_) #[true, true, true, true, true, true, true, true, true, true] rfl rfl (by kernel_rfl) (fun _ _ _ h => h) (by rfl) ?_ hHeld ?_ ?_
      rotate_left 2
      · rintro w' ⟨s0, s1, s2, s3, s4⟩
        go_simp
        try with_reducible rfl
      · simp only [Act.put, List.setIfInBounds_toArray, List.set_cons_zero, List.set_cons_succ]
        rfl
      refine rg_done (by kernel_rfl) ?_
      exact ⟨_, ⟨_, _, _, _, _, _, q, r, rfl, hres, hHeld.1, hHeld.2.1⟩, by simp only [putAll, Act.put, List.setIfInBounds_toArray, List.set_cons_zero, List.set_cons_succ]; rfl⟩
    · skip
      obtain ⟨s0, s1, s2, s3, s4⟩ := hHeld
      (refine oper_msg (some 23) rfl (Operand.tmp 22) x rfl HXV.out.symm ?_; intro g4 w4 hx4 hz4 hg4 hb4; (try have hla3 := hla3.below hb4); simp only [Act.put, List.setIfInBounds_toArray, List.set_cons_zero, List.set_cons_succ])
      repeat go_step
      refine hK.out _ _ ?_ (fun hHeld => ?_)
      · (repeat (first | (with_reducible assumption) | (with_reducible apply And.intro) | (with_reducible refine keep_cell (w := ?_) ?_ ?_ ?_; rotate_left; with_reducible assumption) | (with_reducible refine keep_cell_alloc ?_ ?_) | (with_reducible refine keep_lt (w := ?_) ?_ ?_; rotate_left; with_reducible assumption) | (with_reducible refine keep_lt_alloc ?_) | (with_reducible refine below_next (w := ?_) ?_ ?_; rotate_left 2; with_reducible assumption) | (with_reducible refine below_alloc ?_) | (with_reducible refine Below.drew ?_) | (with_reducible refine keep_lt_drew ?_) | (with_reducible refine keep_cell_drew ?_)))
      clear hK K
      clear s0 s1 s2 s3 s4
      refine rg_one (i := 1) #[true, true, true, true, false, false, false, false, false, false] rfl (by kernel_rfl) (by rfl) (fun K hK => ?_)
      obtain ⟨s0, s1, s2, s3, s4⟩ := hHeld
      repeat go_step
      ((with_reducible refine (HN.out _ s0).mono ?_); rintro e w3 ⟨p3, A3, c3, rfl, hla3, hb3⟩; (try have hx4 : ∀ j u, x.cells[j]? = some u → w3.cell? ⟨g4, j, none⟩ = some u := fun j u hu => keep_cell hb3 hg4 (hx4 j u hu)); (try have hg4 := keep_lt hb3 hg4))
      try dsimp only
      refine hK.out _ _ ?_ (fun hHeld => ?_)
      · (repeat (first | (with_reducible assumption) | (with_reducible apply And.intro) | (with_reducible refine keep_cell (w := ?_) ?_ ?_ ?_; rotate_left; with_reducible assumption) | (with_reducible refine keep_cell_alloc ?_ ?_) | (with_reducible refine keep_lt (w := ?_) ?_ ?_; rotate_left; with_reducible assumption) | (with_reducible refine keep_lt_alloc ?_) | (with_reducible refine below_next (w := ?_) ?_ ?_; rotate_left 2; with_reducible assumption) | (with_reducible refine below_alloc ?_) | (with_reducible refine Below.drew ?_) | (with_reducible refine keep_lt_drew ?_) | (with_reducible refine keep_cell_drew ?_)))
      clear hK K
      clear s0 s1 s2 s3 s4
      refine rg_one (i := 4) #[true, true, true, true, true, false, false, false, false, false] rfl (by kernel_rfl) (by rfl) (fun K hK => ?_)
      obtain ⟨s0, s1, s2, s3, s4⟩ := hHeld
      repeat go_step
      ((with_reducible refine (HW.out p3 A3 c3 g4 _ hla3 hx4 hg4).mono ?_); rintro e w5 ⟨hb5, q, r, rfl, hres⟩; have hres : (isMsg x = false ∧ r = 1) ∨ (isMsg x = true ∧ r = 0 ∧ ∃ b' A' c', q = .pointer (some ⟨b', 0, none⟩) ∧ LeafAt w5 b' A' c' (doL l x) ∧ w.heap.size ≤ b' ∧ ∀ ad, A' = some ad → w.heap.size ≤ ad.block) := (by have hsz := s0.size; rcases hres with hres | ⟨h1, h2, b', A', c', h3, h4, h5, h6⟩; exact .inl hres; exact .inr ⟨h1, h2, b', A', c', h3, h4, Nat.le_trans hsz h5, fun ad e => Nat.le_trans hsz (h6 ad e)⟩))
      try dsimp only
      refine hK.out _ _ ?_ (fun hHeld => ?_)
      · (repeat (first | (with_reducible assumption) | (with_reducible apply And.intro) | (with_reducible refine keep_cell (w := ?_) ?_ ?_ ?_; rotate_left; with_reducible assumption) | (with_reducible refine keep_cell_alloc ?_ ?_) | (with_reducible refine keep_lt (w := ?_) ?_ ?_; rotate_left; with_reducible assumption) | (with_reducible refine keep_lt_alloc ?_) | (with_reducible refine below_next (w := ?_) ?_ ?_; rotate_left 2; with_reducible assumption) | (with_reducible refine below_alloc ?_) | (with_reducible refine Below.drew ?_) | (with_reducible refine keep_lt_drew ?_) | (with_reducible refine keep_cell_drew ?_)))
      clear hK K
      clear s0 s1 s2 s3 s4
      refine rg_take (i := 5) (N := (some 19)) (v := ?_) (a' := ?_) #[true, true, true, true, true, true, false, false, false, false] rfl rfl (by kernel_rfl) (fun _ _ _ h => h) (by rfl) ?_ hHeld ?_ ?_
      rotate_left 2
      · rintro w' ⟨s0, s1, s2, s3, s4⟩
        go_simp
        try with_reducible rfl
      · simp only [Act.put, List.setIfInBounds_toArray, List.set_cons_zero, List.set_cons_succ]
        rfl
      refine rg_take (i := 6) (N := (some 25)) (v := ?_) (a' := ?_) #[true, true, true, true, true, true, true, false, false, false] rfl rfl (by kernel_rfl) (fun _ _ _ h => h) (by rfl) ?_ hHeld ?_ ?_
      rotate_left 2
      · rintro w' ⟨s0, s1, s2, s3, s4⟩
        go_simp
        try with_reducible rfl
      · simp only [Act.put, List.setIfInBounds_toArray, List.set_cons_zero, List.set_cons_succ]
        rfl
      refine rg_take (i := 7) (N := (some 26)) (v := ?_) (a' := ?_) #[true, true, true, true, true, true, true, true, false, false] rfl rfl (by kernel_rfl) (fun _ _ _ h => h) (by rfl) ?_ hHeld ?_ ?_
      rotate_left 2
      · rintro w' ⟨s0, s1, s2, s3, s4⟩
        go_simp
        try with_reducible rfl
      · simp only [Act.put, List.setIfInBounds_toArray, List.set_cons_zero, List.set_cons_succ]
        rfl
      refine rg_take (i := 8) (N := (some 7)) (v := ?_) (a' := ?_) #[true, true, true, true, true, true, true, true, true, false] rfl rfl (by kernel_rfl) (fun _ _ _ h => h) (by rfl) ?_ hHeld ?_ ?_
      rotate_left 2
      · rintro w' ⟨s0, s1, s2, s3, s4⟩
        go_simp
        try with_reducible rfl
      · simp only [Act.put, List.setIfInBounds_toArray, List.set_cons_zero, List.set_cons_succ]
        rfl
      refine rg_take (i := 9) (N := (some 8)) (v := ?_) (a' := ?_) #[true, true, true, true, true, true, true, true, true, true] rfl rfl (by kernel_rfl) (fun _ _ _ h => h) (by rfl) ?_ hHeld ?_ ?_
      rotate_left 2
      · rintro w' ⟨s0, s1, s2, s3, s4⟩
        go_simp
        try with_reducible rfl
      · simp only [Act.put, List.setIfInBounds_toArray, List.set_cons_zero, List.set_cons_succ]
        rfl
      refine rg_done (by kernel_rfl) ?_
      exact ⟨_, ⟨_, _, _, _, _, _, q, r, rfl, hres, hHeld.1, hHeld.2.1⟩, by simp only [putAll, Act.put, List.setIfInBounds_toArray, List.set_cons_zero, List.set_cons_succ]; rfl⟩
  · rintro _ w2 ⟨x0, x1, x2, x3, x4, x5, q, r, rfl, hres, hb2, d0⟩
    simp only [putAll, Act.put, List.setIfInBounds_toArray, List.set_cons_zero, List.set_cons_succ]
    have hxl2 : w.heap.size < w2.heap.size := World.block_lt_of_cell? _ _ d0
    have hend : ∀ err W, errU (pCap N) l x = err → addsU (pCap N) l x = false → Below w.heap.size w W → UpdRes bm g N E R w (.returned (.int .i64 err)) W := fun err W h1 h2 h3 => by
      have := HU.out
      have h4 := HR.out
      rw [h1] at this
      unfold rowsU at h4
      rw [h2] at h4
      rw [← this, ← h4]
      exact upd_keep HM.out h3
    have hek : errU (pCap N) l x = if isMsg x = true then (if kind = 2 ∧ G = none then 0 else if kind = 3 ∧ G.any (fun v => decide (v.size ≠ 8)) = true then 10 else if sumW (doL l x) ≤ pCap N then 0 else 9) else 1 := by unfold errU; rw [hkd, hky, hG]
    have hak : addsU (pCap N) l x = (decide (errU (pCap N) l x = 0) && !(decide (kind = 2) && decide (G = none))) := by unfold addsU; rw [hkd, hky, hG]
    have HEND := Lib.hid hend
    have HEK := Lib.hid hek
    have HAK := Lib.hid hak
    clear hend hek hak hG hkd hky hvl hpn
    rcases hres with ⟨hm, rfl⟩ | ⟨hm, rfl, b', A', c', rfl, hla', hle', hfr'⟩
    · have he : errU (pCap N) l x = 1 := by rw [HEK.out, hm]; rfl
      have ha : addsU (pCap N) l x = false := by rw [HAK.out, he]; rfl
      go_wp2
      go_ret
      exact HEND.out 1 _ he ha hb2
    · by_cases hdel : kind = 2 ∧ G = none
      · obtain ⟨h2, rfl⟩ := hdel
        have he : errU (pCap N) l x = 0 := by rw [HEK.out, hm, if_pos rfl, if_pos ⟨h2, rfl⟩]
        have ha : addsU (pCap N) l x = false := by rw [HAK.out, he, h2]; rfl
        have hk2 : (kind == 2) = true := by simp [h2]
        go_wp2
        go_ret
        exact HEND.out 0 _ he ha hb2
      · have hgo : ¬ (kind = 3 ∧ G.any (fun v => decide (v.size ≠ 8)) = true) → errU (pCap N) l x = if sumW (doL l x) ≤ pCap N then 0 else 9 := fun h3 => by rw [HEK.out, hm, if_pos rfl, if_neg hdel, if_neg h3]
        have hadd : errU (pCap N) l x = 0 → addsU (pCap N) l x = true := fun h0 => by
          rw [HAK.out, h0]
          have : (decide (kind = 2) && decide (G = none)) = false := by
            by_cases h2 : kind = 2
            · have hgn : G ≠ none := fun e => hdel ⟨h2, e⟩
              simp [hgn]
            · simp [h2]
          rw [this]
          rfl
        have hnadd : errU (pCap N) l x ≠ 0 → addsU (pCap N) l x = false := fun h0 => by rw [HAK.out, decide_eq_false h0]; rfl
        have hnum : ∀ W, Calls Tryz.prog 78 #[.string (strO G)] W fun e w' => ∃ q : Int, e = .returned (.tuple #[.int .u64 q, .bool (decide ((strO G).size = 8))]) ∧ Below W.heap.size W w' := fun W => by
          by_cases h8 : (strO G).size = 8
          · refine (number_yes _ W h8).mono ?_
            rintro e w' ⟨rfl, hb⟩
            exact ⟨_, by rw [decide_eq_true h8], hb⟩
          · refine (number_no _ W h8).mono ?_
            rintro e w' ⟨rfl, hb⟩
            exact ⟨_, by rw [decide_eq_false h8], hb⟩
        have hwt := fun W (hW : Below w2.heap.size w2 W) => leafWeight_any b' c' A' (doL l x) W (hla'.below hW)
        have hsr := sumW_range _ hla'.oks
        obtain ⟨okb, hok⟩ : ∃ okb, decide (sumW (doL l x) ≤ pCap N) = okb := ⟨_, rfl⟩
        have hho := fun W => holds_any N (sumW (doL l x)) W
        rw [planA_def, decide_eq_true hsr.1, hok, Bool.true_and] at hho
        have hrw2 : MRow bm N (.slice (some ⟨g, off, none⟩) n cap) w2 := (Fr.of_below (S := fun _ => False) hb2).row id HRW.out
        have HGO := Lib.hid hgo
        have HADD := Lib.hid hadd
        have HNADD := Lib.hid hnadd
        have HWT := Lib.hid hwt
        have HHO := Lib.hid hho
        have HOK := Lib.hid hok
        have HLA := Lib.hid hla'
        have HLE := Lib.hid hle'
        have HFR := Lib.hid hfr'
        have HB2 := Lib.hid hb2
        have HRW2 := Lib.hid hrw2
        have hcase : (kind = 2 ∧ ∃ u, G = some u) ∨ (kind = 3 ∧ G = none) ∨ (kind = 3 ∧ ∃ u : ByteArray, u.size = 8 ∧ G = some u) ∨ (kind = 3 ∧ ∃ u : ByteArray, ¬ u.size = 8 ∧ G = some u) ∨ (¬ kind = 2 ∧ ¬ kind = 3) := by
          by_cases h2 : kind = 2
          · cases G with
            | none => exact absurd ⟨h2, rfl⟩ hdel
            | some u => exact .inl ⟨h2, u, rfl⟩
          · by_cases h3 : kind = 3
            · cases G with
              | none => exact .inr (.inl ⟨h3, rfl⟩)
              | some u =>
                by_cases h8 : u.size = 8
                · exact .inr (.inr (.inl ⟨h3, u, h8, rfl⟩))
                · exact .inr (.inr (.inr (.inl ⟨h3, u, h8, rfl⟩)))
            · exact .inr (.inr (.inr (.inr ⟨h2, h3⟩)))
        clear hgo hadd hnadd hwt hho hok hla' hle' hfr' hb2 hrw2 hdel hlen HAK hsr
        rcases hcase with ⟨h2, u, rfl⟩ | ⟨h3, rfl⟩ | ⟨h3, u, h8, rfl⟩ | ⟨h3, u, h8, rfl⟩ | ⟨h2, h3⟩
        · have hex : errU (pCap N) l x = if sumW (doL l x) ≤ pCap N then 0 else 9 := HGO.out (by rintro ⟨h, _⟩; omega)
          have HEX := Lib.hid hex
          have HNUM := Lib.hid hnum
          clear hex hnum HGO
          have e2 : (kind == 2) = true := by simp [h2]
          have e3 : (kind == 3) = false := by simp [h2]
          go_wp2_with (go_at_call 78; (with_reducible refine (HNUM.out _).mono ?_); rintro e w3 ⟨q, rfl, hb3⟩; have d3 := keep_cell hb3 hxl2 d0; have HB3 := Lib.hid hb3; clear hb3)
          have hrw3 := HRW2.out.below HB3.out
          have HB3' := HB3.out
          refine rg_start (n := 8) (fun w' => Below w2.heap.size w2 w' ∧ MRow bm N (Value.slice (some ⟨g, off, none⟩) n cap) w') #[false, false, false, false, false, false, false, false] (by kernel_rfl) rfl rfl ⟨HB3'.drew, hrw3⟩ (fun hHeld => ?_)
          refine rg_take (i := 0) (N := (some 54)) (v := ?_) (a' := ?_) #[true, false, false, false, false, false, false, false] rfl rfl (by kernel_rfl) (fun _ _ _ h => h) (by rfl) ?_ hHeld ?_ ?_
          rotate_left 2
          · rintro w' ⟨s0, s1⟩
            go_simp
            try with_reducible rfl
          · simp only [Act.put, List.setIfInBounds_toArray, List.set_cons_zero, List.set_cons_succ]
            rfl
          refine rg_take (i := 1) (N := (some 55)) (v := ?_) (a' := ?_) #[true, true, false, false, false, false, false, false] rfl rfl (by kernel_rfl) (fun _ _ _ h => h) (by rfl) ?_ hHeld ?_ ?_
          rotate_left 2
          · rintro w' ⟨s0, s1⟩
            go_simp
            try with_reducible rfl
          · simp only [Act.put, List.setIfInBounds_toArray, List.set_cons_zero, List.set_cons_succ]
            rfl
          refine rg_take (i := 2) (N := (some 56)) (v := ?_) (a' := ?_) #[true, true, true, false, false, false, false, false] rfl rfl (by kernel_rfl) (fun _ _ _ h => h) (by rfl) ?_ hHeld ?_ ?_
          rotate_left 2
          · rintro w' ⟨s0, s1⟩
            go_simp
            try with_reducible rfl
          · simp only [Act.put, List.setIfInBounds_toArray, List.set_cons_zero, List.set_cons_succ]
            rfl
          refine rg_take (i := 3) (N := (some 57)) (v := ?_) (a' := ?_) #[true, true, true, true, false, false, false, false] rfl rfl (by kernel_rfl) (fun _ _ _ h => h) (by rfl) ?_ hHeld ?_ ?_
          rotate_left 2
          · rintro w' ⟨s0, s1⟩
            (obtain ⟨c0, c1, c2, c3, c4, c5, c6, c7⟩ := plan_cells s1; go_simp; (try with_reducible rfl))
          · simp only [Act.put, List.setIfInBounds_toArray, List.set_cons_zero, List.set_cons_succ]
            rfl
          refine rg_take (i := 4) (N := (some 58)) (v := ?_) (a' := ?_) #[true, true, true, true, true, false, false, false] rfl rfl (by kernel_rfl) (fun _ _ _ h => h) (by rfl) ?_ hHeld ?_ ?_
          rotate_left 2
          · rintro w' ⟨s0, s1⟩
            go_simp
            try with_reducible rfl
          · simp only [Act.put, List.setIfInBounds_toArray, List.set_cons_zero, List.set_cons_succ]
            rfl
          refine rg_one (i := 5) #[true, true, true, true, true, true, false, false] rfl (by kernel_rfl) (by rfl) (fun K hK => ?_)
          obtain ⟨s0, s1⟩ := hHeld
          repeat go_step
          ((with_reducible refine (HWT.out _ s0).mono ?_); rintro e w4 ⟨rfl, hb4⟩)
          try dsimp only
          refine hK.out _ _ ?_ (fun hHeld => ?_)
          · exact ⟨below_next s0 hb4, s1.below hb4⟩
          clear hK K
          clear s0 s1
          refine rg_one (i := 6) #[true, true, true, true, true, true, true, false] rfl (by kernel_rfl) (by rfl) (fun K hK => ?_)
          obtain ⟨s0, s1⟩ := hHeld
          repeat go_step
          ((with_reducible refine (HHO.out _).mono ?_); rintro e w5 ⟨rfl, hb5⟩)
          try dsimp only
          refine hK.out _ _ ?_ (fun hHeld => ?_)
          · exact ⟨below_next s0 hb5, s1.below hb5⟩
          clear hK K
          clear s0 s1
          refine rg_take (i := 7) (N := (some 61)) (v := ?_) (a' := ?_) #[true, true, true, true, true, true, true, true] rfl rfl (by kernel_rfl) (fun _ _ _ h => h) (by rfl) ?_ hHeld ?_ ?_
          rotate_left 2
          · rintro w' ⟨s0, s1⟩
            go_simp
            try with_reducible rfl
          · simp only [Act.put, List.setIfInBounds_toArray, List.set_cons_zero, List.set_cons_succ]
            rfl
          refine rg_done (by kernel_rfl) ?_
          obtain ⟨s0, s1⟩ := hHeld
          obtain ⟨c0, c1, c2, c3, c4, c5, c6, c7⟩ := plan_cells s1
          have S0 := Lib.hid s0
          have S1 := Lib.hid s1
          clear s0 s1 c0 c1 c2 c3 c4 c5 c6
          cases okb with
          | false =>
            have he : errU (pCap N) l x = 9 := by rw [HEX.out, if_neg (of_decide_eq_false HOK.out)]
            have ha : addsU (pCap N) l x = false := HNADD.out (by rw [he]; decide)
            go_wp2
            go_ret
            exact HEND.out 9 _ he ha (below_next HB2.out S0.out)
          | true =>
            have he : errU (pCap N) l x = 0 := by rw [HEX.out, if_pos (of_decide_eq_true HOK.out)]
            have ha : addsU (pCap N) l x = true := HADD.out he
            have hE : E = 0 := by rw [← HU.out, he]
            have hR : R = ls ++ [doL l x] := by rw [← HR.out]; unfold rowsU; rw [if_pos ha]
            have HE0 := Lib.hid hE
            have HR0 := Lib.hid hR
            have hb5 : Below w.heap.size w w5 := below_next HB2.out S0.out
            have hra5 := HRA.out.fr (Fr.of_below (S := fun _ => False) hb5) id
            have hgb : ¬ bm = g := by
              obtain ⟨cur, hgr, _⟩ := HRA.out.blk
              exact kinds_ne HRW.out hgr (by decide)
            have HB5 := Lib.hid hb5
            have HRA5 := Lib.hid hra5
            have HGB := Lib.hid hgb
            clear he ha hE hR hb5 hra5 hgb
            go_wp2_with (at_builtin; go_loud (refine rows_append rfl (some 69) rfl _ _ rfl g off n cap w5.heap.size b' 1 ps rfl rfl (HRA5.out.fr ((Fr.refl (fun _ => False) w5).alloc _) id) (by rw [Lib.cell_of_heap (heap_alloc_new w5 _)]; rfl) (by omega) ?_; intro g' off' cap' w7 hr7 hg' hf7; have hrow7 := hf7.row HGB.out (S1.out.below (below_alloc (Below.refl _ w5))); have d7 := (plan_cells hrow7).2.2.2.2.2.2.2; have f7 := Lib.frozen_of_heap hrow7 7; have HR7 := Lib.hid hr7; have HG7 := Lib.hid hg'; have HF7 := Lib.hid hf7; clear hr7 hg' hf7 hrow7))
            go_ret
            rw [HE0.out, HR0.out]
            exact model_add HRW.out HRA.out HPS.out HLV.out (below_alloc HB5.out) HR7.out HG7.out HF7.out (HLA.out.below (below_alloc S0.out)) HLE.out HFR.out
        · have hex : errU (pCap N) l x = if sumW (doL l x) ≤ pCap N then 0 else 9 := HGO.out (by rintro ⟨_, h⟩; cases h)
          have HEX := Lib.hid hex
          have HNUM := Lib.hid hnum
          clear hex hnum HGO
          have e2 : (kind == 2) = false := by simp [h3]
          have e3 : (kind == 3) = true := by simp [h3]
          go_wp2_with (go_at_call 78; (with_reducible refine (HNUM.out _).mono ?_); rintro e w3 ⟨q, rfl, hb3⟩; have d3 := keep_cell hb3 hxl2 d0; have HB3 := Lib.hid hb3; clear hb3)
          have hrw3 := HRW2.out.below HB3.out
          have HB3' := HB3.out
          refine rg_start (n := 8) (fun w' => Below w2.heap.size w2 w' ∧ MRow bm N (Value.slice (some ⟨g, off, none⟩) n cap) w') #[false, false, false, false, false, false, false, false] (by kernel_rfl) rfl rfl ⟨HB3'.drew, hrw3⟩ (fun hHeld => ?_)
          refine rg_take (i := 0) (N := (some 54)) (v := ?_) (a' := ?_) #[true, false, false, false, false, false, false, false] rfl rfl (by kernel_rfl) (fun _ _ _ h => h) (by rfl) ?_ hHeld ?_ ?_
          rotate_left 2
          · rintro w' ⟨s0, s1⟩
            go_simp
            try with_reducible rfl
          · simp only [Act.put, List.setIfInBounds_toArray, List.set_cons_zero, List.set_cons_succ]
            rfl
          refine rg_take (i := 1) (N := (some 55)) (v := ?_) (a' := ?_) #[true, true, false, false, false, false, false, false] rfl rfl (by kernel_rfl) (fun _ _ _ h => h) (by rfl) ?_ hHeld ?_ ?_
          rotate_left 2
          · rintro w' ⟨s0, s1⟩
            go_simp
            try with_reducible rfl
          · simp only [Act.put, List.setIfInBounds_toArray, List.set_cons_zero, List.set_cons_succ]
            rfl
          refine rg_take (i := 2) (N := (some 56)) (v := ?_) (a' := ?_) #[true, true, true, false, false, false, false, false] rfl rfl (by kernel_rfl) (fun _ _ _ h => h) (by rfl) ?_ hHeld ?_ ?_
          rotate_left 2
          · rintro w' ⟨s0, s1⟩
            go_simp
            try with_reducible rfl
          · simp only [Act.put, List.setIfInBounds_toArray, List.set_cons_zero, List.set_cons_succ]
            rfl
          refine rg_take (i := 3) (N := (some 57)) (v := ?_) (a' := ?_) #[true, true, true, true, false, false, false, false] rfl rfl (by kernel_rfl) (fun _ _ _ h => h) (by rfl) ?_ hHeld ?_ ?_
          rotate_left 2
          · rintro w' ⟨s0, s1⟩
            (obtain ⟨c0, c1, c2, c3, c4, c5, c6, c7⟩ := plan_cells s1; go_simp; (try with_reducible rfl))
          · simp only [Act.put, List.setIfInBounds_toArray, List.set_cons_zero, List.set_cons_succ]
            rfl
          refine rg_take (i := 4) (N := (some 58)) (v := ?_) (a' := ?_) #[true, true, true, true, true, false, false, false] rfl rfl (by kernel_rfl) (fun _ _ _ h => h) (by rfl) ?_ hHeld ?_ ?_
          rotate_left 2
          · rintro w' ⟨s0, s1⟩
            go_simp
            try with_reducible rfl
          · simp only [Act.put, List.setIfInBounds_toArray, List.set_cons_zero, List.set_cons_succ]
            rfl
          refine rg_one (i := 5) #[true, true, true, true, true, true, false, false] rfl (by kernel_rfl) (by rfl) (fun K hK => ?_)
          obtain ⟨s0, s1⟩ := hHeld
          repeat go_step
          ((with_reducible refine (HWT.out _ s0).mono ?_); rintro e w4 ⟨rfl, hb4⟩)
          try dsimp only
          refine hK.out _ _ ?_ (fun hHeld => ?_)
          · exact ⟨below_next s0 hb4, s1.below hb4⟩
          clear hK K
          clear s0 s1
          refine rg_one (i := 6) #[true, true, true, true, true, true, true, false] rfl (by kernel_rfl) (by rfl) (fun K hK => ?_)
          obtain ⟨s0, s1⟩ := hHeld
          repeat go_step
          ((with_reducible refine (HHO.out _).mono ?_); rintro e w5 ⟨rfl, hb5⟩)
          try dsimp only
          refine hK.out _ _ ?_ (fun hHeld => ?_)
          · exact ⟨below_next s0 hb5, s1.below hb5⟩
          clear hK K
          clear s0 s1
          refine rg_take (i := 7) (N := (some 61)) (v := ?_) (a' := ?_) #[true, true, true, true, true, true, true, true] rfl rfl (by kernel_rfl) (fun _ _ _ h => h) (by rfl) ?_ hHeld ?_ ?_
          rotate_left 2
          · rintro w' ⟨s0, s1⟩
            go_simp
            try with_reducible rfl
          · simp only [Act.put, List.setIfInBounds_toArray, List.set_cons_zero, List.set_cons_succ]
            rfl
          refine rg_done (by kernel_rfl) ?_
          obtain ⟨s0, s1⟩ := hHeld
          obtain ⟨c0, c1, c2, c3, c4, c5, c6, c7⟩ := plan_cells s1
          have S0 := Lib.hid s0
          have S1 := Lib.hid s1
          clear s0 s1 c0 c1 c2 c3 c4 c5 c6
          cases okb with
          | false =>
            have he : errU (pCap N) l x = 9 := by rw [HEX.out, if_neg (of_decide_eq_false HOK.out)]
            have ha : addsU (pCap N) l x = false := HNADD.out (by rw [he]; decide)
            go_wp2
            go_ret
            exact HEND.out 9 _ he ha (below_next HB2.out S0.out)
          | true =>
            have he : errU (pCap N) l x = 0 := by rw [HEX.out, if_pos (of_decide_eq_true HOK.out)]
            have ha : addsU (pCap N) l x = true := HADD.out he
            have hE : E = 0 := by rw [← HU.out, he]
            have hR : R = ls ++ [doL l x] := by rw [← HR.out]; unfold rowsU; rw [if_pos ha]
            have HE0 := Lib.hid hE
            have HR0 := Lib.hid hR
            have hb5 : Below w.heap.size w w5 := below_next HB2.out S0.out
            have hra5 := HRA.out.fr (Fr.of_below (S := fun _ => False) hb5) id
            have hgb : ¬ bm = g := by
              obtain ⟨cur, hgr, _⟩ := HRA.out.blk
              exact kinds_ne HRW.out hgr (by decide)
            have HB5 := Lib.hid hb5
            have HRA5 := Lib.hid hra5
            have HGB := Lib.hid hgb
            clear he ha hE hR hb5 hra5 hgb
            go_wp2_with (at_builtin; go_loud (refine rows_append rfl (some 69) rfl _ _ rfl g off n cap w5.heap.size b' 1 ps rfl rfl (HRA5.out.fr ((Fr.refl (fun _ => False) w5).alloc _) id) (by rw [Lib.cell_of_heap (heap_alloc_new w5 _)]; rfl) (by omega) ?_; intro g' off' cap' w7 hr7 hg' hf7; have hrow7 := hf7.row HGB.out (S1.out.below (below_alloc (Below.refl _ w5))); have d7 := (plan_cells hrow7).2.2.2.2.2.2.2; have f7 := Lib.frozen_of_heap hrow7 7; have HR7 := Lib.hid hr7; have HG7 := Lib.hid hg'; have HF7 := Lib.hid hf7; clear hr7 hg' hf7 hrow7))
            go_ret
            rw [HE0.out, HR0.out]
            exact model_add HRW.out HRA.out HPS.out HLV.out (below_alloc HB5.out) HR7.out HG7.out HF7.out (HLA.out.below (below_alloc S0.out)) HLE.out HFR.out
        · have hex : errU (pCap N) l x = if sumW (doL l x) ≤ pCap N then 0 else 9 := HGO.out (by rintro ⟨_, h⟩; simp [h8] at h)
          have HEX := Lib.hid hex
          have HNUM := Lib.hid hnum
          clear hex hnum HGO
          have e2 : (kind == 2) = false := by simp [h3]
          have e3 : (kind == 3) = true := by simp [h3]
          have e8 : decide ((strO (some u)).size = 8) = true := by simp [strO, h8]
          go_wp2_with (go_at_call 78; (with_reducible refine (HNUM.out _).mono ?_); rintro e w3 ⟨q, rfl, hb3⟩; have d3 := keep_cell hb3 hxl2 d0; have HB3 := Lib.hid hb3; clear hb3)
          have hrw3 := HRW2.out.below HB3.out
          have HB3' := HB3.out
          refine rg_start (n := 8) (fun w' => Below w2.heap.size w2 w' ∧ MRow bm N (Value.slice (some ⟨g, off, none⟩) n cap) w') #[false, false, false, false, false, false, false, false] (by kernel_rfl) rfl rfl ⟨HB3'.drew, hrw3⟩ (fun hHeld => ?_)
          refine rg_take (i := 0) (N := (some 54)) (v := ?_) (a' := ?_) #[true, false, false, false, false, false, false, false] rfl rfl (by kernel_rfl) (fun _ _ _ h => h) (by rfl) ?_ hHeld ?_ ?_
          rotate_left 2
          · rintro w' ⟨s0, s1⟩
            go_simp
            try with_reducible rfl
          · simp only [Act.put, List.setIfInBounds_toArray, List.set_cons_zero, List.set_cons_succ]
            rfl
          refine rg_take (i := 1) (N := (some 55)) (v := ?_) (a' := ?_) #[true, true, false, false, false, false, false, false] rfl rfl (by kernel_rfl) (fun _ _ _ h => h) (by rfl) ?_ hHeld ?_ ?_
          rotate_left 2
          · rintro w' ⟨s0, s1⟩
            go_simp
            try with_reducible rfl
          · simp only [Act.put, List.setIfInBounds_toArray, List.set_cons_zero, List.set_cons_succ]
            rfl
          refine rg_take (i := 2) (N := (some 56)) (v := ?_) (a' := ?_) #[true, true, true, false, false, false, false, false] rfl rfl (by kernel_rfl) (fun _ _ _ h => h) (by rfl) ?_ hHeld ?_ ?_
          rotate_left 2
          · rintro w' ⟨s0, s1⟩
            go_simp
            try with_reducible rfl
          · simp only [Act.put, List.setIfInBounds_toArray, List.set_cons_zero, List.set_cons_succ]
            rfl
          refine rg_take (i := 3) (N := (some 57)) (v := ?_) (a' := ?_) #[true, true, true, true, false, false, false, false] rfl rfl (by kernel_rfl) (fun _ _ _ h => h) (by rfl) ?_ hHeld ?_ ?_
          rotate_left 2
          · rintro w' ⟨s0, s1⟩
            (obtain ⟨c0, c1, c2, c3, c4, c5, c6, c7⟩ := plan_cells s1; go_simp; (try with_reducible rfl))
          · simp only [Act.put, List.setIfInBounds_toArray, List.set_cons_zero, List.set_cons_succ]
            rfl
          refine rg_take (i := 4) (N := (some 58)) (v := ?_) (a' := ?_) #[true, true, true, true, true, false, false, false] rfl rfl (by kernel_rfl) (fun _ _ _ h => h) (by rfl) ?_ hHeld ?_ ?_
          rotate_left 2
          · rintro w' ⟨s0, s1⟩
            go_simp
            try with_reducible rfl
          · simp only [Act.put, List.setIfInBounds_toArray, List.set_cons_zero, List.set_cons_succ]
            rfl
          refine rg_one (i := 5) #[true, true, true, true, true, true, false, false] rfl (by kernel_rfl) (by rfl) (fun K hK => ?_)
          obtain ⟨s0, s1⟩ := hHeld
          repeat go_step
          ((with_reducible refine (HWT.out _ s0).mono ?_); rintro e w4 ⟨rfl, hb4⟩)
          try dsimp only
          refine hK.out _ _ ?_ (fun hHeld => ?_)
          · exact ⟨below_next s0 hb4, s1.below hb4⟩
          clear hK K
          clear s0 s1
          refine rg_one (i := 6) #[true, true, true, true, true, true, true, false] rfl (by kernel_rfl) (by rfl) (fun K hK => ?_)
          obtain ⟨s0, s1⟩ := hHeld
          repeat go_step
          ((with_reducible refine (HHO.out _).mono ?_); rintro e w5 ⟨rfl, hb5⟩)
          try dsimp only
          refine hK.out _ _ ?_ (fun hHeld => ?_)
          · exact ⟨below_next s0 hb5, s1.below hb5⟩
          clear hK K
          clear s0 s1
          refine rg_take (i := 7) (N := (some 61)) (v := ?_) (a' := ?_) #[true, true, true, true, true, true, true, true] rfl rfl (by kernel_rfl) (fun _ _ _ h => h) (by rfl) ?_ hHeld ?_ ?_
          rotate_left 2
          · rintro w' ⟨s0, s1⟩
            go_simp
            try with_reducible rfl
          · simp only [Act.put, List.setIfInBounds_toArray, List.set_cons_zero, List.set_cons_succ]
            rfl
          refine rg_done (by kernel_rfl) ?_
          obtain ⟨s0, s1⟩ := hHeld
          obtain ⟨c0, c1, c2, c3, c4, c5, c6, c7⟩ := plan_cells s1
          have S0 := Lib.hid s0
          have S1 := Lib.hid s1
          clear s0 s1 c0 c1 c2 c3 c4 c5 c6
          cases okb with
          | false =>
            have he : errU (pCap N) l x = 9 := by rw [HEX.out, if_neg (of_decide_eq_false HOK.out)]
            have ha : addsU (pCap N) l x = false := HNADD.out (by rw [he]; decide)
            go_wp2
            go_ret
            exact HEND.out 9 _ he ha (below_next HB2.out S0.out)
          | true =>
            have he : errU (pCap N) l x = 0 := by rw [HEX.out, if_pos (of_decide_eq_true HOK.out)]
            have ha : addsU (pCap N) l x = true := HADD.out he
            have hE : E = 0 := by rw [← HU.out, he]
            have hR : R = ls ++ [doL l x] := by rw [← HR.out]; unfold rowsU; rw [if_pos ha]
            have HE0 := Lib.hid hE
            have HR0 := Lib.hid hR
            have hb5 : Below w.heap.size w w5 := below_next HB2.out S0.out
            have hra5 := HRA.out.fr (Fr.of_below (S := fun _ => False) hb5) id
            have hgb : ¬ bm = g := by
              obtain ⟨cur, hgr, _⟩ := HRA.out.blk
              exact kinds_ne HRW.out hgr (by decide)
            have HB5 := Lib.hid hb5
            have HRA5 := Lib.hid hra5
            have HGB := Lib.hid hgb
            clear he ha hE hR hb5 hra5 hgb
            go_wp2_with (at_builtin; go_loud (refine rows_append rfl (some 69) rfl _ _ rfl g off n cap w5.heap.size b' 1 ps rfl rfl (HRA5.out.fr ((Fr.refl (fun _ => False) w5).alloc _) id) (by rw [Lib.cell_of_heap (heap_alloc_new w5 _)]; rfl) (by omega) ?_; intro g' off' cap' w7 hr7 hg' hf7; have hrow7 := hf7.row HGB.out (S1.out.below (below_alloc (Below.refl _ w5))); have d7 := (plan_cells hrow7).2.2.2.2.2.2.2; have f7 := Lib.frozen_of_heap hrow7 7; have HR7 := Lib.hid hr7; have HG7 := Lib.hid hg'; have HF7 := Lib.hid hf7; clear hr7 hg' hf7 hrow7))
            go_ret
            rw [HE0.out, HR0.out]
            exact model_add HRW.out HRA.out HPS.out HLV.out (below_alloc HB5.out) HR7.out HG7.out HF7.out (HLA.out.below (below_alloc S0.out)) HLE.out HFR.out
        · have he : errU (pCap N) l x = 10 := by rw [HEK.out, hm, if_pos rfl, if_neg (fun h => by cases h.2), if_pos ⟨h3, by simp [h8]⟩]
          have ha : addsU (pCap N) l x = false := HNADD.out (by rw [he]; decide)
          have HNUM := Lib.hid hnum
          clear hnum HGO
          have e2 : (kind == 2) = false := by simp [h3]
          have e3 : (kind == 3) = true := by simp [h3]
          have e8 : decide ((strO (some u)).size = 8) = false := by simp [strO, h8]
          go_wp2_with (go_at_call 78; (with_reducible refine (HNUM.out _).mono ?_); rintro e w3 ⟨q, rfl, hb3⟩; have d3 := keep_cell hb3 hxl2 d0; have HB3 := Lib.hid hb3; clear hb3)
          go_ret
          exact HEND.out 10 _ he ha (below_next HB2.out HB3.out)
        · have hex : errU (pCap N) l x = if sumW (doL l x) ≤ pCap N then 0 else 9 := HGO.out (by rintro ⟨h, _⟩; exact h3 h)
          have HEX := Lib.hid hex
          have HNUM := Lib.hid hnum
          clear hex hnum HGO
          have e2 : (kind == 2) = false := by simp [h2]
          have e3 : (kind == 3) = false := by simp [h3]
          go_wp2_with (go_at_call 78; (with_reducible refine (HNUM.out _).mono ?_); rintro e w3 ⟨q, rfl, hb3⟩; have d3 := keep_cell hb3 hxl2 d0; have HB3 := Lib.hid hb3; clear hb3)
          have hrw3 := HRW2.out.below HB3.out
          have HB3' := HB3.out
          refine rg_start (n := 8) (fun w' => Below w2.heap.size w2 w' ∧ MRow bm N (Value.slice (some ⟨g, off, none⟩) n cap) w') #[false, false, false, false, false, false, false, false] (by kernel_rfl) rfl rfl ⟨HB3'.drew, hrw3⟩ (fun hHeld => ?_)
          refine rg_take (i := 0) (N := (some 54)) (v := ?_) (a' := ?_) #[true, false, false, false, false, false, false, false] rfl rfl (by kernel_rfl) (fun _ _ _ h => h) (by rfl) ?_ hHeld ?_ ?_
          rotate_left 2
          · rintro w' ⟨s0, s1⟩
            go_simp
            try with_reducible rfl
          · simp only [Act.put, List.setIfInBounds_toArray, List.set_cons_zero, List.set_cons_succ]
            rfl
          refine rg_take (i := 1) (N := (some 55)) (v := ?_) (a' := ?_) #[true, true, false, false, false, false, false, false] rfl rfl (by kernel_rfl) (fun _ _ _ h => h) (by rfl) ?_ hHeld ?_ ?_
          rotate_left 2
          · rintro w' ⟨s0, s1⟩
            go_simp
            try with_reducible rfl
          · simp only [Act.put, List.setIfInBounds_toArray, List.set_cons_zero, List.set_cons_succ]
            rfl
          refine rg_take (i := 2) (N := (some 56)) (v := ?_) (a' := ?_) #[true, true, true, false, false, false, false, false] rfl rfl (by kernel_rfl) (fun _ _ _ h => h) (by rfl) ?_ hHeld ?_ ?_
          rotate_left 2
          · rintro w' ⟨s0, s1⟩
            go_simp
            try with_reducible rfl
          · simp only [Act.put, List.setIfInBounds_toArray, List.set_cons_zero, List.set_cons_succ]
            rfl
          refine rg_take (i := 3) (N := (some 57)) (v := ?_) (a' := ?_) #[true, true, true, true, false, false, false, false] rfl rfl (by kernel_rfl) (fun _ _ _ h => h) (by rfl) ?_ hHeld ?_ ?_
          rotate_left 2
          · rintro w' ⟨s0, s1⟩
            (obtain ⟨c0, c1, c2, c3, c4, c5, c6, c7⟩ := plan_cells s1; go_simp; (try with_reducible rfl))
          · simp only [Act.put, List.setIfInBounds_toArray, List.set_cons_zero, List.set_cons_succ]
            rfl
          refine rg_take (i := 4) (N := (some 58)) (v := ?_) (a' := ?_) #[true, true, true, true, true, false, false, false] rfl rfl (by kernel_rfl) (fun _ _ _ h => h) (by rfl) ?_ hHeld ?_ ?_
          rotate_left 2
          · rintro w' ⟨s0, s1⟩
            go_simp
            try with_reducible rfl
          · simp only [Act.put, List.setIfInBounds_toArray, List.set_cons_zero, List.set_cons_succ]
            rfl
          refine rg_one (i := 5) #[true, true, true, true, true, true, false, false] rfl (by kernel_rfl) (by rfl) (fun K hK => ?_)
          obtain ⟨s0, s1⟩ := hHeld
          repeat go_step
          ((with_reducible refine (HWT.out _ s0).mono ?_); rintro e w4 ⟨rfl, hb4⟩)
          try dsimp only
          refine hK.out _ _ ?_ (fun hHeld => ?_)
          · exact ⟨below_next s0 hb4, s1.below hb4⟩
          clear hK K
          clear s0 s1
          refine rg_one (i := 6) #[true, true, true, true, true, true, true, false] rfl (by kernel_rfl) (by rfl) (fun K hK => ?_)
          obtain ⟨s0, s1⟩ := hHeld
          repeat go_step
          ((with_reducible refine (HHO.out _).mono ?_); rintro e w5 ⟨rfl, hb5⟩)
          try dsimp only
          refine hK.out _ _ ?_ (fun hHeld => ?_)
          · exact ⟨below_next s0 hb5, s1.below hb5⟩
          clear hK K
          clear s0 s1
          refine rg_take (i := 7) (N := (some 61)) (v := ?_) (a' := ?_) #[true, true, true, true, true, true, true, true] rfl rfl (by kernel_rfl) (fun _ _ _ h => h) (by rfl) ?_ hHeld ?_ ?_
          rotate_left 2
          · rintro w' ⟨s0, s1⟩
            go_simp
            try with_reducible rfl
          · simp only [Act.put, List.setIfInBounds_toArray, List.set_cons_zero, List.set_cons_succ]
            rfl
          refine rg_done (by kernel_rfl) ?_
          obtain ⟨s0, s1⟩ := hHeld
          obtain ⟨c0, c1, c2, c3, c4, c5, c6, c7⟩ := plan_cells s1
          have S0 := Lib.hid s0
          have S1 := Lib.hid s1
          clear s0 s1 c0 c1 c2 c3 c4 c5 c6
          cases okb with
          | false =>
            have he : errU (pCap N) l x = 9 := by rw [HEX.out, if_neg (of_decide_eq_false HOK.out)]
            have ha : addsU (pCap N) l x = false := HNADD.out (by rw [he]; decide)
            go_wp2
            go_ret
            exact HEND.out 9 _ he ha (below_next HB2.out S0.out)
          | true =>
            have he : errU (pCap N) l x = 0 := by rw [HEX.out, if_pos (of_decide_eq_true HOK.out)]
            have ha : addsU (pCap N) l x = true := HADD.out he
            have hE : E = 0 := by rw [← HU.out, he]
            have hR : R = ls ++ [doL l x] := by rw [← HR.out]; unfold rowsU; rw [if_pos ha]
            have HE0 := Lib.hid hE
            have HR0 := Lib.hid hR
            have hb5 : Below w.heap.size w w5 := below_next HB2.out S0.out
            have hra5 := HRA.out.fr (Fr.of_below (S := fun _ => False) hb5) id
            have hgb : ¬ bm = g := by
              obtain ⟨cur, hgr, _⟩ := HRA.out.blk
              exact kinds_ne HRW.out hgr (by decide)
            have HB5 := Lib.hid hb5
            have HRA5 := Lib.hid hra5
            have HGB := Lib.hid hgb
            clear he ha hE hR hb5 hra5 hgb
            go_wp2_with (at_builtin; go_loud (refine rows_append rfl (some 69) rfl _ _ rfl g off n cap w5.heap.size b' 1 ps rfl rfl (HRA5.out.fr ((Fr.refl (fun _ => False) w5).alloc _) id) (by rw [Lib.cell_of_heap (heap_alloc_new w5 _)]; rfl) (by omega) ?_; intro g' off' cap' w7 hr7 hg' hf7; have hrow7 := hf7.row HGB.out (S1.out.below (below_alloc (Below.refl _ w5))); have d7 := (plan_cells hrow7).2.2.2.2.2.2.2; have f7 := Lib.frozen_of_heap hrow7 7; have HR7 := Lib.hid hr7; have HG7 := Lib.hid hg'; have HF7 := Lib.hid hf7; clear hr7 hg' hf7 hrow7))
            go_ret
            rw [HE0.out, HR0.out]
            exact model_add HRW.out HRA.out HPS.out HLV.out (below_alloc HB5.out) HR7.out HG7.out HF7.out (HLA.out.below (below_alloc S0.out)) HLE.out HFR.out
end Go.Proofs.YtdfgdnaejnngoaaGreat
namespace Go.Proofs.YtdfgdnaejnngoaaGreat
open Go.RowKit
/-! Ranges; an order's message. -/
theorem bl_gtr (a b : List UInt8) : (!Op.bytesLess a b && !a == b) = Op.bytesLess b a := by
  cases h : Op.bytesLess b a with
  | true =>
    have h1 : Op.bytesLess a b = false := by
      cases h' : Op.bytesLess a b with
      | false => rfl
      | true =>
        have := bl_trans _ _ _ h h'
        rw [bl_irrefl] at this
        cases this
    have h2 : (a == b) = false := by
      rw [beq_eq_false_iff_ne]
      rintro rfl
      rw [bl_irrefl] at h
      cases h
    rw [h1, h2]
    rfl
  | false =>
    cases h' : Op.bytesLess a b with
    | true => rfl
    | false =>
      have := bl_tri _ _ h' h
      subst this
      simp
def turned (lo hi : ByteArray) : Bool := !hi.toList.isEmpty && klt hi lo
set_option maxRecDepth 100000 in
theorem isTurned_any (lo hi : ByteArray) (w : World) : Calls Tryz.prog 110 #[.agg #[.string lo, .string hi]] w fun e w' => e = .returned (.bool (turned lo hi)) ∧ Below w.heap.size w w' := by
  have hk : klt hi lo = Op.bytesLess hi.toList lo.toList := rfl
  have hg := bl_gtr lo.toList hi.toList
  unfold turned
  rw [hk, ← hg]
  clear hk hg
  cases he : hi.toList.isEmpty with
  | true =>
    have h0 : hi.toList = [] := List.isEmpty_iff.1 he
    go_enter Tryz.func110, Tryz.ntmps110
    go_wp2
    go_ret
    exact ⟨rfl, (by repeat (first | assumption | exact Below.refl _ _ | (refine below_step (w := ?_) ?_ ?_ ?_; rotate_left 2; assumption) | refine Below.drew ?_ | refine below_drewN ?_ _ | refine Below.alloc ?_ ?_ _ | refine Below.setCell ?_ ?_ _ | (focus (simp; done)) | (focus (simp; omega)) | omega))⟩
  | false =>
    rw [Bool.not_false, Bool.true_and]
    generalize hb : (!Op.bytesLess lo.toList hi.toList && !lo.toList == hi.toList) = b
    go_enter Tryz.func110, Tryz.ntmps110
    go_wp2
    go_ret
    exact ⟨rfl, (by repeat (first | assumption | exact Below.refl _ _ | (refine below_step (w := ?_) ?_ ?_ ?_; rotate_left 2; assumption) | refine Below.drew ?_ | refine below_drewN ?_ _ | refine Below.alloc ?_ ?_ _ | refine Below.setCell ?_ ?_ _ | (focus (simp; done)) | (focus (simp; omega)) | omega))⟩
set_option maxRecDepth 100000 in
theorem rangeIs_any (lo hi : ByteArray) (w : World) : Calls Tryz.prog 80 #[.agg #[.string lo, .string hi]] w fun e w' => e = .returned (.bool (isRng lo hi)) ∧ Below w.heap.size w w' := by
  have ht := fun W => isTurned_any lo hi W
  have hr : isRng lo hi = (decide ((lo.size : Int) ≤ 8) && (decide ((hi.size : Int) ≤ 8) && !turned lo hi)) := rfl
  rw [hr]
  clear hr
  generalize turned lo hi = t at *
  have HT := Lib.hid ht
  clear ht
  by_cases h1 : (lo.size : Int) ≤ 8
  · by_cases h2 : (hi.size : Int) ≤ 8
    · rw [decide_eq_true h1, decide_eq_true h2]
      go_enter Tryz.func80, Tryz.ntmps80
      go_wp2_with (go_at_call 110; (with_reducible refine (HT.out _).mono ?_); rintro e w1 ⟨rfl, hb1⟩)
      go_ret
      exact ⟨rfl, (by repeat (first | assumption | exact Below.refl _ _ | (refine below_step (w := ?_) ?_ ?_ ?_; rotate_left 2; assumption) | refine Below.drew ?_ | refine below_drewN ?_ _ | refine Below.alloc ?_ ?_ _ | refine Below.setCell ?_ ?_ _ | (focus (simp; done)) | (focus (simp; omega)) | omega))⟩
    · rw [decide_eq_true h1, decide_eq_false h2]
      go_enter Tryz.func80, Tryz.ntmps80
      go_wp2
      go_ret
      exact ⟨rfl, (by repeat (first | assumption | exact Below.refl _ _ | (refine below_step (w := ?_) ?_ ?_ ?_; rotate_left 2; assumption) | refine Below.drew ?_ | refine below_drewN ?_ _ | refine Below.alloc ?_ ?_ _ | refine Below.setCell ?_ ?_ _ | (focus (simp; done)) | (focus (simp; omega)) | omega))⟩
  · rw [decide_eq_false h1]
    go_enter Tryz.func80, Tryz.ntmps80
    go_wp2
    go_ret
    exact ⟨rfl, (by repeat (first | assumption | exact Below.refl _ _ | (refine below_step (w := ?_) ?_ ?_ ?_; rotate_left 2; assumption) | refine Below.drew ?_ | refine below_drewN ?_ _ | refine Below.alloc ?_ ?_ _ | refine Below.setCell ?_ ?_ _ | (focus (simp; done)) | (focus (simp; omega)) | omega))⟩
def hasR (lo hi k : ByteArray) : Bool := isKey k && (!klt k lo && (hi.toList.isEmpty || klt k hi))
set_option maxRecDepth 100000 in
theorem rangeHas_any (lo hi k : ByteArray) (w : World) : Calls Tryz.prog 111 #[.agg #[.string lo, .string hi], .string k] w fun e w' => e = .returned (.bool (hasR lo hi k)) ∧ Below w.heap.size w w' := by
  have hi1 := fun W => keyIs_any k W
  have h1 : klt k lo = Op.bytesLess k.toList lo.toList := rfl
  have h2 : klt k hi = Op.bytesLess k.toList hi.toList := rfl
  unfold hasR
  rw [h1, h2]
  clear h1 h2
  generalize isKey k = b1 at *
  generalize hb2 : Op.bytesLess k.toList lo.toList = b2 at *
  generalize hb3 : Op.bytesLess k.toList hi.toList = b3 at *
  have HI := Lib.hid hi1
  clear hi1
  cases b1 with
  | false =>
    go_enter Tryz.func111, Tryz.ntmps111
    go_wp2_with (go_at_call 31; (with_reducible refine (HI.out _).mono ?_); rintro e w1 ⟨rfl, hb1⟩; have hbx := box_cells hb1; have d0 : w1.cell? ⟨w.heap.size, 0, none⟩ = some (.string lo) := (by rw [Lib.cell_of_heap hbx]; rfl); have d1 : w1.cell? ⟨w.heap.size, 1, none⟩ = some (.string hi) := (by rw [Lib.cell_of_heap hbx]; rfl); clear hbx)
    go_ret
    exact ⟨rfl, (by repeat (first | assumption | exact Below.refl _ _ | (refine below_step (w := ?_) ?_ ?_ ?_; rotate_left 2; assumption) | refine Below.drew ?_ | refine below_drewN ?_ _ | refine Below.alloc ?_ ?_ _ | refine Below.setCell ?_ ?_ _ | (focus (simp; done)) | (focus (simp; omega)) | omega))⟩
  | true =>
    cases b2 with
    | true =>
      go_enter Tryz.func111, Tryz.ntmps111
      go_wp2_with (go_at_call 31; (with_reducible refine (HI.out _).mono ?_); rintro e w1 ⟨rfl, hb1⟩; have hbx := box_cells hb1; have d0 : w1.cell? ⟨w.heap.size, 0, none⟩ = some (.string lo) := (by rw [Lib.cell_of_heap hbx]; rfl); have d1 : w1.cell? ⟨w.heap.size, 1, none⟩ = some (.string hi) := (by rw [Lib.cell_of_heap hbx]; rfl); clear hbx)
      go_ret
      exact ⟨rfl, (by repeat (first | assumption | exact Below.refl _ _ | (refine below_step (w := ?_) ?_ ?_ ?_; rotate_left 2; assumption) | refine Below.drew ?_ | refine below_drewN ?_ _ | refine Below.alloc ?_ ?_ _ | refine Below.setCell ?_ ?_ _ | (focus (simp; done)) | (focus (simp; omega)) | omega))⟩
    | false =>
      cases he : hi.toList.isEmpty with
      | true =>
        have h0 : hi.toList = [] := List.isEmpty_iff.1 he
        go_enter Tryz.func111, Tryz.ntmps111
        go_wp2_with (go_at_call 31; (with_reducible refine (HI.out _).mono ?_); rintro e w1 ⟨rfl, hb1⟩; have hbx := box_cells hb1; have d0 : w1.cell? ⟨w.heap.size, 0, none⟩ = some (.string lo) := (by rw [Lib.cell_of_heap hbx]; rfl); have d1 : w1.cell? ⟨w.heap.size, 1, none⟩ = some (.string hi) := (by rw [Lib.cell_of_heap hbx]; rfl); clear hbx)
        go_ret
        exact ⟨rfl, (by repeat (first | assumption | exact Below.refl _ _ | (refine below_step (w := ?_) ?_ ?_ ?_; rotate_left 2; assumption) | refine Below.drew ?_ | refine below_drewN ?_ _ | refine Below.alloc ?_ ?_ _ | refine Below.setCell ?_ ?_ _ | (focus (simp; done)) | (focus (simp; omega)) | omega))⟩
      | false =>
        go_enter Tryz.func111, Tryz.ntmps111
        go_wp2_with (go_at_call 31; (with_reducible refine (HI.out _).mono ?_); rintro e w1 ⟨rfl, hb1⟩; have hbx := box_cells hb1; have d0 : w1.cell? ⟨w.heap.size, 0, none⟩ = some (.string lo) := (by rw [Lib.cell_of_heap hbx]; rfl); have d1 : w1.cell? ⟨w.heap.size, 1, none⟩ = some (.string hi) := (by rw [Lib.cell_of_heap hbx]; rfl); clear hbx)
        go_ret
        exact ⟨rfl, (by repeat (first | assumption | exact Below.refl _ _ | (refine below_step (w := ?_) ?_ ?_ ?_; rotate_left 2; assumption) | refine Below.drew ?_ | refine below_drewN ?_ _ | refine Below.alloc ?_ ?_ _ | refine Below.setCell ?_ ?_ _ | (focus (simp; done)) | (focus (simp; omega)) | omega))⟩
theorem take_snocR {α : Type} {l : List α} {k : Nat} {x : α} (h : l[k]? = some x) : l.take (k + 1) = l.take k ++ [x] := by rw [List.take_add_one, h]; rfl
/-- the items of a range -/
def withinL (lo hi : ByteArray) (l : List Itm) : List Itm := l.filter fun x => hasR lo hi x.key
theorem within_take {lo hi : ByteArray} {l : List Itm} {k : Nat} {y : Itm} (hy : l[k]? = some y) : withinL lo hi (l.take (k + 1)) = if hasR lo hi y.key = true then withinL lo hi (l.take k) ++ [y] else withinL lo hi (l.take k) := by
  unfold withinL
  rw [take_snocR hy, List.filter_append]
  by_cases e : hasR lo hi y.key = true
  · rw [if_pos e]; simp [e]
  · rw [if_neg e]; simp [e]
theorem within_len (lo hi : ByteArray) (l : List Itm) : (withinL lo hi l).length ≤ l.length := List.length_filter_le _ _
end Go.Proofs.YtdfgdnaejnngoaaGreat
namespace Go.Proofs.YtdfgdnaejnngoaaGreat
open Go.RowKit
theorem itm_rowR {w : World} {A : Option Addr} {zs : List Itm} (hel : Elems w A 2 (zs.map Itm.cells)) {k : Nat} {y : Itm} (hy : zs[k]? = some y) : ∃ b off, A = some ⟨b, off, none⟩ ∧ b < w.heap.size ∧ w.cell? ⟨b, off + k * 2, none⟩ = some (.string y.key) ∧ w.cell? ⟨b, off + k * 2 + 1, none⟩ = some (.string y.val) := by
  obtain ⟨b, off, rfl, hlt, hc⟩ := hel k y.cells (by simp [hy])
  exact ⟨b, off, rfl, hlt, by simpa using hc 0 _ rfl, hc 1 _ rfl⟩
theorem own_geR {w : World} {B q : Nat} {v : Value} {l : List Itm} (h : OwnsM w B v l) (hq : q < B) (e : v.ownBlock = some q) : False := by
  rcases h.2 with ⟨he, _⟩ | ⟨g, cap', cur, he, hb, _⟩
  · rw [he] at e; cases e
  · rw [he] at e
    simp only [Value.ownBlock, Option.some.injEq] at e
    omega
theorem ownM_drewNR {w : World} {B : Nat} {v : Value} {l : List Itm} (h : OwnsM w B v l) (n : Nat) : OwnsM (w.drewN n) B v l := h
theorem own_nil {w : World} {B n cap : Nat} {A : Option Addr} {l : List Itm} (h : OwnsM w B (.slice A n cap) l) : A = none → cap = 0 := by
  rintro rfl
  rcases h.2 with ⟨he, _⟩ | ⟨g, cap', cur, he, hb, _⟩
  · simp at he; exact he.2
  · simp at he
theorem own_at {w : World} {B n cap : Nat} {A : Option Addr} {l : List Itm} (h : OwnsM w B (.slice A n cap) l) : ∀ ad, A = some ad → B ≤ ad.block := by
  rintro ad rfl
  rcases h.2 with ⟨he, _⟩ | ⟨g, cap', cur, he, hb, _⟩
  · simp at he
  · simp at he
    rw [he.1]
    exact hb
set_option maxHeartbeats 1000000 in
set_option maxRecDepth 100000 in
theorem within_any (b cap : Nat) (A : Option Addr) (lo hi : ByteArray) (l : List Itm) (w : World) (h : LeafAt w b A cap l) (hl : l.length ≤ 70000) : Calls Tryz.prog 81 #[.pointer (some ⟨b, 0, none⟩), .agg #[.string lo, .string hi]] w
    fun e w' => ∃ b' A' c', e = .returned (.pointer (some ⟨b', 0, none⟩)) ∧ LeafAt w' b' A' c' (withinL lo hi l) ∧ w.heap.size ≤ b' ∧ (∀ ad, A' = some ad → w.heap.size ≤ ad.block) ∧ Below w.heap.size w w' := by
  have hha := fun k W => rangeHas_any lo hi k W
  have hwr : Rises (withinL lo hi l) := rises_filter _ h.rises
  have hwo : ∀ y ∈ withinL lo hi l, y.ok := fun y hy => h.oks y (List.mem_filter.1 hy).1
  have HL := Lib.hid h
  have HH := Lib.hid hha
  have HR := Lib.hid hwr
  have HO := Lib.hid hwo
  have c00 := h.c0
  have hbl := h.lt
  have hnil := h.nil
  have HNL := Lib.hid hnil
  clear h hha hwr hwo hnil
  go_enter Tryz.func81, Tryz.ntmps81
  go_wp2
  have hb0 : Below w.heap.size w (w.alloc (.cells #[.string lo, .string hi] 97)) := below_alloc (Below.refl _ w)
  have hx0 : (w.alloc (.cells #[.string lo, .string hi] 97)).heap[w.heap.size]? = some (.cells #[.string lo, .string hi] 97 (0, 0)) := heap_alloc_new w _
  have HB0 := Lib.hid hb0
  have HX0 := Lib.hid hx0
  clear hb0 hx0
  go_loopw [15, 5, 7] (fun i v _ wr => ∃ (k c2 : Nat) (A2 : Option Addr), i = .int .i64 k ∧ k ≤ l.length ∧ v = .slice A2 (withinL lo hi (l.take k)).length c2 ∧ OwnsM wr (w.heap.size + 1) (.slice A2 (withinL lo hi (l.take k)).length c2) (withinL lo hi (l.take k)) ∧ Below w.heap.size w wr ∧ wr.heap[w.heap.size]? = some (.cells #[.string lo, .string hi] 97 (0, 0))) (fun i _ _ _ => l.length + 1 - (intOf i).toNat)
  case atStart => exact ⟨0, 0, none, rfl, Nat.zero_le _, rfl, OwnsG.nil _ _, HB0.out, HX0.out⟩
  case round =>
    obtain ⟨k, c2, A2, rfl, hk, rfl, how, hbel, hbox⟩ := hrel
    by_cases hkl : k < l.length
    · have hkI : (k : Int) < (l.length : Int) := by omega
      obtain ⟨y, hy⟩ := get_lt hkl
      obtain ⟨g, off, rfl, hglt, d0, d1⟩ := itm_rowR ((HL.out.els).below hbel) hy
      have x0 : wr.cell? ⟨w.heap.size, 0, none⟩ = some (.string lo) := by rw [Lib.cell_of_heap hbox]; rfl
      have x1 : wr.cell? ⟨w.heap.size, 1, none⟩ = some (.string hi) := by rw [Lib.cell_of_heap hbox]; rfl
      have hxl := lt_of_row hbox
      have hwt := within_take (lo := lo) (hi := hi) hy
      have hwl := within_len lo hi (l.take k)
      have htl : (l.take k).length ≤ 70000 := by rw [List.length_take]; omega
      have hha := fun W => HH.out y.key W
      have HOW := Lib.hid how
      have HBEL := Lib.hid hbel
      have HBX := Lib.hid hbox
      cases hq : hasR lo hi y.key with
      | false =>
        rw [hq, if_neg (by decide)] at hwt
        rw [hq] at hha
        have HWT := Lib.hid hwt
        have HHA := Lib.hid hha
        clear hwt hha hq how hbel hbox hy
        obtain ⟨yk, yv⟩ := y
        dsimp only at d0 d1 HHA
        generalize withinL lo hi (l.take k) = D at *
        go_wp2_with (go_at_call 111; (with_reducible refine (HHA.out _).mono ?_); rintro e w1 ⟨rfl, hb1⟩; have HB1 := Lib.hid (below_next (below_alloc (o := .cells #[.string yk, .string yv] 41) (Below.refl _ wr)) hb1); clear hb1)
        refine ⟨⟨k + 1, c2, A2, by go_num, by omega, by rw [HWT.out], by rw [HWT.out]; exact HOW.out.below HB1.out, below_next HBEL.out HB1.out, (Fr.of_below (S := fun _ => False) HB1.out).row id HBX.out⟩, ?_⟩
        simp [intOf]
        omega
      | true =>
        rw [hq, if_pos rfl] at hwt
        rw [hq] at hha
        have HWT := Lib.hid hwt
        have HHA := Lib.hid hha
        clear hwt hha hq how hbel hbox hy
        obtain ⟨yk, yv⟩ := y
        dsimp only at d0 d1 HHA
        generalize withinL lo hi (l.take k) = D at *
        go_wp2_with (first
          | (go_at_call 111; (with_reducible refine (HHA.out _).mono ?_); rintro e w1 ⟨rfl, hb1⟩; have hbx := box_cells hb1; have z0 : w1.cell? ⟨wr.heap.size, 0, none⟩ = some (.string yk) := (by rw [Lib.cell_of_heap hbx]; rfl); have z1 : w1.cell? ⟨wr.heap.size, 1, none⟩ = some (.string yv) := (by rw [Lib.cell_of_heap hbx]; rfl); have HB1 := Lib.hid (below_next (below_alloc (o := .cells #[.string yk, .string yv] 41) (Below.refl _ wr)) hb1); clear hb1 hbx)
          | (at_builtin; go_loud (refine itm_append rfl (some 26) rfl _ _ rfl (w.heap.size + 1) (.slice A2 D.length c2) D [⟨yk, yv⟩] 1 ⟨w1.heap.size, 0, none⟩ 1 rfl rfl rfl (OwnsG.alloc (f := Itm.cells) (k := 2) (e := 41) (HOW.out.below HB1.out) _) (by simpa using ItmAt.cells (x := ⟨yk, yv⟩) (T := 41) (heap_alloc_new w1 _)) (by simp; omega) (by have := HB1.out.size; simp; omega) (D.length + 1) (by simp) ?_; intro A3 c3 w3 ho3 hf3; have HO3 := Lib.hid ho3; have HF3 := Lib.hid hf3; clear ho3 hf3)))
        have hb1w : Below w.heap.size w (w1.alloc (.cells #[.string yk, .string yv] 41)) := below_alloc (below_next HBEL.out HB1.out)
        refine ⟨⟨k + 1, c3, A3, by go_num, by omega, by rw [HWT.out, List.length_append]; rfl, by rw [HWT.out, List.length_append]; exact HO3.out, hb1w.trans (HF3.out.to_below hb1w.size (fun q hq e => own_geR HOW.out (by omega) e)), HF3.out.row (fun e => own_geR HOW.out (Nat.lt_succ_self _) e) ((Fr.of_below (S := fun _ => False) (below_alloc HB1.out)).row id HBX.out)⟩, ?_⟩
        simp [intOf]
        omega
    · obtain rfl : k = l.length := by omega
      rw [List.take_length] at how
      rw [List.take_length]
      have hwl := within_len lo hi l
      have hma := made_any A2 c2 (withinL lo hi l) wr (how.elems Itm.clen) HR.out HO.out (own_nil how) (by omega)
      have hfr := own_at (how.base (Nat.le_succ _))
      have HMA := Lib.hid hma
      have HFR := Lib.hid hfr
      have HB := Lib.hid hbel
      clear hma hfr hbel how
      generalize hD : withinL lo hi l = D at *
      have HD := Lib.hid hD
      clear hD
      go_wp2_with (go_at_call 89; (with_reducible refine HMA.out.mono ?_); rintro e w3 ⟨b3, rfl, hla, hle, hb3⟩)
      go_ret
      exact ⟨b3, A2, c2, rfl, by rw [HD.out]; exact hla, Nat.le_trans HB.out.size hle, HFR.out, below_next HB.out hb3⟩
end Go.Proofs.YtdfgdnaejnngoaaGreat
namespace Go.Proofs.YtdfgdnaejnngoaaGreat
open Go.RowKit
/-! An order's message; model.get. -/
theorem results_cell {P : Program} {fn : Func} {tmps : Array Value} {a : Tmp} {t : TypeId} {ad : Addr} {v : Value} {w : World} (hf : fn.results = #[.cell a t]) (hp : tmps.getD a undef = .pointer (some ad)) (hl : (loadVar t ad).run P w = .ok v w) : (results fn tmps).run P w = .ok v w := by
  unfold results
  rw [hf]
  have hp2 : tmps[a]?.getD undef = .pointer (some ad) := by simpa using hp
  simp [hp2, hl, asAddr]
theorem results_cell2 {P : Program} {fn : Func} {tmps : Array Value} {a c : Tmp} {t : TypeId} {ad : Addr} {v x : Value} {w : World} (hf : fn.results = #[.cell a t, .tmp c]) (hp : tmps.getD a undef = .pointer (some ad)) (hl : (loadVar t ad).run P w = .ok v w) (hx : tmps.getD c undef = x) : (results fn tmps).run P w = .ok (.tuple #[v, x]) w := by
  unfold results
  rw [hf]
  have hp2 : tmps[a]?.getD undef = .pointer (some ad) := by simpa using hp
  have hx2 : tmps[c]?.getD undef = x := by simpa using hx
  simp [hp2, hl, hx2, asAddr]
theorem row_range {w : World} {b : Nat} {cs : List Value} {T : TypeId} {fz : Nat × Nat} (h : w.heap[b]? = some (.cells cs.toArray T fz)) : w.rangeAt b 0 cs := fun j v hv => by
  rw [Nat.zero_add, Lib.cell_of_heap h]
  simpa using hv
/-- a struct that is kept, read whole -/
theorem load_row {w : World} {b : Nat} {cs : List Value} {T : TypeId} {fz : Nat × Nat} (ty : TypeId) (h : w.heap[b]? = some (.cells cs.toArray T fz)) (d : TypeDesc) (hu : Tryz.prog.underlying ty = some d) (hd : d.isRow = true) (hi : (Tryz.prog.info? ty).map (·.size) = some cs.length) :
    (loadVar ty ⟨b, 0, none⟩).run Tryz.prog w = .ok (.agg cs.toArray) w := run_loadVar_mid w b 0 ty cs d (row_range h) hu hd hi
/-- a struct that is kept, written whole -/
theorem oper_store_row {op : Oper} {a : Act} {w : World} {K : Act → World → Prop} {Q : Exit → Act → World → Prop} (ty : TypeId) (x y : Operand) (ho : op.op = .store ty x y)
    (b : Nat) (zs : Array Value) (cs : List Value) (T : TypeId) (hx : a.eval x = .pointer (some ⟨b, 0, none⟩)) (hy : a.eval y = .agg cs.toArray) (hrow : w.heap[b]? = some (.cells zs T (0, 0))) (hz : zs.size = cs.length) (hi : (Tryz.prog.info? ty).map (·.size) = some cs.length) (h1 : cs.all (·.oneCell') = true)
    (h : ∀ w', w'.heap[b]? = some (.cells cs.toArray T (0, 0)) → Fr (fun k => k = b) w w' → K (a.put op.dst undef) w') : Oper.wp Tryz.prog op a w K Q := by
  have hr := run_storeVar_row (P := Tryz.prog) w b T ty zs cs.toArray hrow (by simpa using hi) (by simpa using hz) (by simpa using h1)
  unfold Oper.wp execOp
  simp only [ho, hx, hy, Instr.storeAt, Instr.sureAddr, Sem.run_bind, Sem.run_pure, Result.andThen_ok, hr]
  refine h _ ?_ ⟨rfl, rfl, rfl, by simp [World.setRow], fun k hk hn => ?_⟩
  · simp [World.setRow, Array.getElem?_modify, hrow]
  · have hn' : ¬ b = k := fun e => hn e.symm
    simp [World.setRow, Array.getElem?_modify, hn']
theorem wpList_store_row {ops : Array Oper} {rest : List Oper} {op : Oper} {a : Act} {w : World} {Q : Exit → Act → World → Prop} (hgd : op.guard = none) (ty : TypeId) (x y : Operand) (ho : op.op = .store ty x y)
    (b : Nat) (zs : Array Value) (cs : List Value) (T : TypeId) (hx : a.eval x = .pointer (some ⟨b, 0, none⟩)) (hy : a.eval y = .agg cs.toArray) (hrow : w.heap[b]? = some (.cells zs T (0, 0))) (hz : zs.size = cs.length) (hi : (Tryz.prog.info? ty).map (·.size) = some cs.length) (h1 : cs.all (·.oneCell') = true)
    (h : ∀ w', w'.heap[b]? = some (.cells cs.toArray T (0, 0)) → Fr (fun k => k = b) w w' → wpList Tryz.prog ops Q rest (a.put op.dst undef) w') : wpList Tryz.prog ops Q (op :: rest) a w :=
  wpList_plain hgd fun K hK => oper_store_row ty x y ho b zs cs T hx hy hrow hz hi h1 (fun w' hr hf => hK _ _ (h w' hr hf))
theorem mg_size : (Tryz.prog.info? 90).map (·.size) = some 3 := by kernel_rfl
theorem mg_all (x : Mg) : x.cells.all (·.oneCell') = true := rfl
set_option maxRecDepth 100000 in
theorem ofAdd_any (k : ByteArray) (n : Int) (w : World) (h0 : 0 ≤ n) (hn : n < 18446744073709551616) : Calls Tryz.prog 76 #[.string k, .int .u64 n] w fun e w' => e = .returned (Mg.mk 3 k (valB n.toNat)).v ∧ Below w.heap.size w w' := by
  rw [Mg.v_def]
  have hv := fun W => value_any n.toNat W (by omega)
  rw [Int.toNat_of_nonneg h0, ← show valB n.toNat = ⟨(valBytes n.toNat).toArray⟩ from rfl] at hv
  generalize valB n.toNat = V at *
  have HV := Lib.hid hv
  have HMS := Lib.hid mg_size
  clear hv h0 hn
  go_enter Tryz.func76, Tryz.ntmps76
  go_wp2_with (first
    | (go_at_call 106; (with_reducible refine (HV.out _).mono ?_); rintro e w1 ⟨rfl, hb1⟩; have HBX := Lib.hid (box_cells hb1); have HB1 := Lib.hid (below_next (below_alloc (Below.refl _ w)) hb1); clear hb1)
    | (refine wpList_store_row rfl 90 (Operand.tmp 4) (Operand.tmp 8) rfl w.heap.size _ (Mg.mk 3 k V).cells _ rfl rfl HBX.out rfl HMS.out (mg_all _) ?_; intro w2 hr2 hf2; have HR2 := Lib.hid hr2; have HF2 := Lib.hid hf2; clear hr2 hf2))
  refine bodyPost_ret (v := (Mg.mk 3 k V).v) (results_cell (a := 4) (t := 90) (ad := ⟨w.heap.size, 0, none⟩) Tryz.results76 rfl (load_row _ HR2.out _ Tryz.underlying90 rfl HMS.out)) rfl ⟨rfl, HB1.out.trans (HF2.out.to_below HB1.out.size (fun i hi e => by omega))⟩
def msgZ (o : Ord) : Mg := (msgO o).getD ⟨0, ⟨#[]⟩, ⟨#[]⟩⟩
set_option maxRecDepth 100000 in
theorem mdl_message (o : Ord) (w : World) (h0 : 0 ≤ o.n) (hn : o.n < 18446744073709551616) : Calls Tryz.prog 44 #[o.v] w fun e w' => e = .returned (.tuple #[(msgZ o).v, .bool (msgO o).isSome]) ∧ Below w.heap.size w w' := by
  have hp := fun k v W => ofPut_any k v W
  have hd := fun k W => ofDel_any k W
  have ha := fun W => ofAdd_any o.key o.n W h0 hn
  simp only [Mg.v_def] at hp hd ha
  have HP := Lib.hid hp
  have HD := Lib.hid hd
  have HA := Lib.hid ha
  have HMS := Lib.hid mg_size
  clear hp hd ha h0 hn
  obtain ⟨kind, key, val, n, lo, hi⟩ := o
  rw [Ord.v_def]
  unfold msgZ msgO
  dsimp only at HA ⊢
  generalize valB n.toNat = V at *
  by_cases h1 : kind = 1
  · subst h1
    rw [if_pos rfl]
    go_enter Tryz.func44, Tryz.ntmps44
    go_wp2_with (first
      | (go_at_call 74; (with_reducible refine (HP.out _ _ _).mono ?_); rintro e w1 ⟨rfl, hb1⟩; have hbx : w1.heap[w.heap.size + 1]? = some (.cells #[.int .i64 0, .string ⟨#[]⟩, .string ⟨#[]⟩] 90 (0, 0)) := ((Fr.of_below (S := fun _ => False) hb1).row id (heap_new_at (by simp))); have HBX := Lib.hid hbx; clear hbx; have HB1 := Lib.hid (below_next (below_alloc (below_alloc (Below.refl _ w))) hb1); clear hb1)
      | (refine wpList_store_row rfl 90 (Operand.tmp 2) (Operand.tmp 12) rfl (w.heap.size + 1) _ (Mg.mk 1 key val).cells _ rfl rfl HBX.out rfl HMS.out (mg_all _) ?_; intro w2 hr2 hf2; have HR2 := Lib.hid hr2; have HF2 := Lib.hid hf2; clear hr2 hf2))
    refine bodyPost_ret (v := .tuple #[(Mg.mk 1 key val).v, .bool true]) (results_cell2 (a := 2) (c := 3) (t := 90) (ad := ⟨w.heap.size + 1, 0, none⟩) Tryz.results44 rfl (load_row _ HR2.out _ Tryz.underlying90 rfl HMS.out) rfl) rfl ⟨rfl, HB1.out.trans (HF2.out.to_below HB1.out.size (fun i hi e => by omega))⟩
  by_cases h2 : kind = 2
  · subst h2
    rw [if_neg h1, if_pos rfl]
    clear h1
    go_enter Tryz.func44, Tryz.ntmps44
    go_wp2_with (first
      | (go_at_call 75; (with_reducible refine (HD.out _ _).mono ?_); rintro e w1 ⟨rfl, hb1⟩; have hbx : w1.heap[w.heap.size + 1]? = some (.cells #[.int .i64 0, .string ⟨#[]⟩, .string ⟨#[]⟩] 90 (0, 0)) := ((Fr.of_below (S := fun _ => False) hb1).row id (heap_new_at (by simp))); have HBX := Lib.hid hbx; clear hbx; have HB1 := Lib.hid (below_next (below_alloc (below_alloc (Below.refl _ w))) hb1); clear hb1)
      | (refine wpList_store_row rfl 90 (Operand.tmp 2) (Operand.tmp 17) rfl (w.heap.size + 1) _ (Mg.mk 2 key ⟨#[]⟩).cells _ rfl rfl HBX.out rfl HMS.out (mg_all _) ?_; intro w2 hr2 hf2; have HR2 := Lib.hid hr2; have HF2 := Lib.hid hf2; clear hr2 hf2))
    refine bodyPost_ret (v := .tuple #[(Mg.mk 2 key ⟨#[]⟩).v, .bool true]) (results_cell2 (a := 2) (c := 3) (t := 90) (ad := ⟨w.heap.size + 1, 0, none⟩) Tryz.results44 rfl (load_row _ HR2.out _ Tryz.underlying90 rfl HMS.out) rfl) rfl ⟨rfl, HB1.out.trans (HF2.out.to_below HB1.out.size (fun i hi e => by omega))⟩
  by_cases h3 : kind = 3
  · subst h3
    rw [if_neg h1, if_neg h2, if_pos rfl]
    clear h1 h2
    go_enter Tryz.func44, Tryz.ntmps44
    go_wp2_with (first
      | (go_at_call 76; (with_reducible refine (HA.out _).mono ?_); rintro e w1 ⟨rfl, hb1⟩; have hbx : w1.heap[w.heap.size + 1]? = some (.cells #[.int .i64 0, .string ⟨#[]⟩, .string ⟨#[]⟩] 90 (0, 0)) := ((Fr.of_below (S := fun _ => False) hb1).row id (heap_new_at (by simp))); have HBX := Lib.hid hbx; clear hbx; have HB1 := Lib.hid (below_next (below_alloc (below_alloc (Below.refl _ w))) hb1); clear hb1)
      | (refine wpList_store_row rfl 90 (Operand.tmp 2) (Operand.tmp 24) rfl (w.heap.size + 1) _ (Mg.mk 3 key V).cells _ rfl rfl HBX.out rfl HMS.out (mg_all _) ?_; intro w2 hr2 hf2; have HR2 := Lib.hid hr2; have HF2 := Lib.hid hf2; clear hr2 hf2))
    refine bodyPost_ret (v := .tuple #[(Mg.mk 3 key V).v, .bool true]) (results_cell2 (a := 2) (c := 3) (t := 90) (ad := ⟨w.heap.size + 1, 0, none⟩) Tryz.results44 rfl (load_row _ HR2.out _ Tryz.underlying90 rfl HMS.out) rfl) rfl ⟨rfl, HB1.out.trans (HF2.out.to_below HB1.out.size (fun i hi e => by omega))⟩
  · rw [if_neg h1, if_neg h2, if_neg h3]
    have e1 : (kind == 1) = false := by simp [h1]
    have e2 : (kind == 2) = false := by simp [h2]
    have e3 : (kind == 3) = false := by simp [h3]
    clear h1 h2 h3
    go_enter Tryz.func44, Tryz.ntmps44
    go_wp2
    refine bodyPost_ret (v := .tuple #[(Mg.mk 0 ⟨#[]⟩ ⟨#[]⟩).v, .bool false]) (results_cell2 (a := 2) (c := 3) (t := 90) (ad := ⟨w.heap.size + 1, 0, none⟩) Tryz.results44 rfl (load_row (cs := (Mg.mk 0 ⟨#[]⟩ ⟨#[]⟩).cells) _ (heap_new_at (by simp)) _ Tryz.underlying90 rfl HMS.out) rfl) rfl ⟨rfl, below_alloc (below_alloc (Below.refl _ w))⟩
set_option maxRecDepth 100000 in
theorem prn_message (o : Ord) (w : World) (h0 : 0 ≤ o.n) (hn : o.n < 18446744073709551616) : Calls Tryz.prog 57 #[o.v] w fun e w' => e = .returned (.tuple #[(msgZ o).v, .bool (msgO o).isSome]) ∧ Below w.heap.size w w' := by
  have hp := fun k v W => ofPut_any k v W
  have hd := fun k W => ofDel_any k W
  have ha := fun W => ofAdd_any o.key o.n W h0 hn
  simp only [Mg.v_def] at hp hd ha
  have HP := Lib.hid hp
  have HD := Lib.hid hd
  have HA := Lib.hid ha
  have HMS := Lib.hid mg_size
  clear hp hd ha h0 hn
  obtain ⟨kind, key, val, n, lo, hi⟩ := o
  rw [Ord.v_def]
  unfold msgZ msgO
  dsimp only at HA ⊢
  generalize valB n.toNat = V at *
  by_cases h1 : kind = 1
  · subst h1
    rw [if_pos rfl]
    go_enter Tryz.func57, Tryz.ntmps57
    go_wp2_with (first
      | (go_at_call 74; (with_reducible refine (HP.out _ _ _).mono ?_); rintro e w1 ⟨rfl, hb1⟩; have hbx : w1.heap[w.heap.size + 1]? = some (.cells #[.int .i64 0, .string ⟨#[]⟩, .string ⟨#[]⟩] 90 (0, 0)) := ((Fr.of_below (S := fun _ => False) hb1).row id (heap_new_at (by simp))); have HBX := Lib.hid hbx; clear hbx; have HB1 := Lib.hid (below_next (below_alloc (below_alloc (Below.refl _ w))) hb1); clear hb1)
      | (refine wpList_store_row rfl 90 (Operand.tmp 2) (Operand.tmp 12) rfl (w.heap.size + 1) _ (Mg.mk 1 key val).cells _ rfl rfl HBX.out rfl HMS.out (mg_all _) ?_; intro w2 hr2 hf2; have HR2 := Lib.hid hr2; have HF2 := Lib.hid hf2; clear hr2 hf2))
    refine bodyPost_ret (v := .tuple #[(Mg.mk 1 key val).v, .bool true]) (results_cell2 (a := 2) (c := 3) (t := 90) (ad := ⟨w.heap.size + 1, 0, none⟩) Tryz.results57 rfl (load_row _ HR2.out _ Tryz.underlying90 rfl HMS.out) rfl) rfl ⟨rfl, HB1.out.trans (HF2.out.to_below HB1.out.size (fun i hi e => by omega))⟩
  by_cases h2 : kind = 2
  · subst h2
    rw [if_neg h1, if_pos rfl]
    clear h1
    go_enter Tryz.func57, Tryz.ntmps57
    go_wp2_with (first
      | (go_at_call 75; (with_reducible refine (HD.out _ _).mono ?_); rintro e w1 ⟨rfl, hb1⟩; have hbx : w1.heap[w.heap.size + 1]? = some (.cells #[.int .i64 0, .string ⟨#[]⟩, .string ⟨#[]⟩] 90 (0, 0)) := ((Fr.of_below (S := fun _ => False) hb1).row id (heap_new_at (by simp))); have HBX := Lib.hid hbx; clear hbx; have HB1 := Lib.hid (below_next (below_alloc (below_alloc (Below.refl _ w))) hb1); clear hb1)
      | (refine wpList_store_row rfl 90 (Operand.tmp 2) (Operand.tmp 17) rfl (w.heap.size + 1) _ (Mg.mk 2 key ⟨#[]⟩).cells _ rfl rfl HBX.out rfl HMS.out (mg_all _) ?_; intro w2 hr2 hf2; have HR2 := Lib.hid hr2; have HF2 := Lib.hid hf2; clear hr2 hf2))
    refine bodyPost_ret (v := .tuple #[(Mg.mk 2 key ⟨#[]⟩).v, .bool true]) (results_cell2 (a := 2) (c := 3) (t := 90) (ad := ⟨w.heap.size + 1, 0, none⟩) Tryz.results57 rfl (load_row _ HR2.out _ Tryz.underlying90 rfl HMS.out) rfl) rfl ⟨rfl, HB1.out.trans (HF2.out.to_below HB1.out.size (fun i hi e => by omega))⟩
  by_cases h3 : kind = 3
  · subst h3
    rw [if_neg h1, if_neg h2, if_pos rfl]
    clear h1 h2
    go_enter Tryz.func57, Tryz.ntmps57
    go_wp2_with (first
      | (go_at_call 76; (with_reducible refine (HA.out _).mono ?_); rintro e w1 ⟨rfl, hb1⟩; have hbx : w1.heap[w.heap.size + 1]? = some (.cells #[.int .i64 0, .string ⟨#[]⟩, .string ⟨#[]⟩] 90 (0, 0)) := ((Fr.of_below (S := fun _ => False) hb1).row id (heap_new_at (by simp))); have HBX := Lib.hid hbx; clear hbx; have HB1 := Lib.hid (below_next (below_alloc (below_alloc (Below.refl _ w))) hb1); clear hb1)
      | (refine wpList_store_row rfl 90 (Operand.tmp 2) (Operand.tmp 24) rfl (w.heap.size + 1) _ (Mg.mk 3 key V).cells _ rfl rfl HBX.out rfl HMS.out (mg_all _) ?_; intro w2 hr2 hf2; have HR2 := Lib.hid hr2; have HF2 := Lib.hid hf2; clear hr2 hf2))
    refine bodyPost_ret (v := .tuple #[(Mg.mk 3 key V).v, .bool true]) (results_cell2 (a := 2) (c := 3) (t := 90) (ad := ⟨w.heap.size + 1, 0, none⟩) Tryz.results57 rfl (load_row _ HR2.out _ Tryz.underlying90 rfl HMS.out) rfl) rfl ⟨rfl, HB1.out.trans (HF2.out.to_below HB1.out.size (fun i hi e => by omega))⟩
  · rw [if_neg h1, if_neg h2, if_neg h3]
    have e1 : (kind == 1) = false := by simp [h1]
    have e2 : (kind == 2) = false := by simp [h2]
    have e3 : (kind == 3) = false := by simp [h3]
    clear h1 h2 h3
    go_enter Tryz.func57, Tryz.ntmps57
    go_wp2
    refine bodyPost_ret (v := .tuple #[(Mg.mk 0 ⟨#[]⟩ ⟨#[]⟩).v, .bool false]) (results_cell2 (a := 2) (c := 3) (t := 90) (ad := ⟨w.heap.size + 1, 0, none⟩) Tryz.results57 rfl (load_row (cs := (Mg.mk 0 ⟨#[]⟩ ⟨#[]⟩).cells) _ (heap_new_at (by simp)) _ Tryz.underlying90 rfl HMS.out) rfl) rfl ⟨rfl, below_alloc (below_alloc (Below.refl _ w))⟩
end Go.Proofs.YtdfgdnaejnngoaaGreat
namespace Go.Proofs.YtdfgdnaejnngoaaGreat
open Go.RowKit
/-! model.get, scan, safe. -/
/-- an answer's cells -/
def ansC (err : Int) (has : Bool) (val : ByteArray) (its : Value) (n wt : Int) : List Value := [.int .i64 err, .bool has, .string val, its, .int .i64 n, .int .i64 wt, .int .i64 0, .int .i64 0, .int .i64 0, .int .i64 0, .int .i64 0, .int .i64 0, .int .i64 0]
theorem ans_size : (Tryz.prog.info? 35).map (·.size) = some 13 := by kernel_rfl
theorem ans_all (err : Int) (has : Bool) (val : ByteArray) (A : Option Addr) (n c : Nat) (m wt : Int) : (ansC err has val (.slice A n c) m wt).all (·.oneCell') = true := rfl
def ansV (err : Int) (has : Bool) (val : ByteArray) (its : Value) (n wt : Int) : Value := .agg (ansC err has val its n wt).toArray
set_option maxRecDepth 100000 in
theorem get_bad (bm : Nat) (k : ByteArray) (w : World) (hk : isKey k = false) : Calls Tryz.prog 46 #[.pointer (some ⟨bm, 0, none⟩), .string k] w fun e w' => e = .returned (ansV 1 false ⟨#[]⟩ (.slice none 0 0) 0 0) ∧ Below w.heap.size w w' := by
  have hi := fun W => keyIs_any k W
  rw [hk] at hi
  have HI := Lib.hid hi
  have HMS := Lib.hid ans_size
  clear hi hk
  go_enter Tryz.func46, Tryz.ntmps46
  go_wp2_with (first
    | (go_at_call 31; (with_reducible refine (HI.out _).mono ?_); rintro e w1 ⟨rfl, hb1⟩; have HBX := Lib.hid (box_cells hb1); have HB1 := Lib.hid (below_next (below_alloc (Below.refl _ w)) hb1); clear hb1)
    | (refine wpList_store_row rfl 35 (Operand.tmp 4) (Operand.tmp 8) rfl w.heap.size _ (ansC 1 false ⟨#[]⟩ (.slice none 0 0) 0 0) _ rfl rfl HBX.out rfl HMS.out (ans_all _ _ _ _ _ _ _ _) ?_; intro w2 hr2 hf2; have HR2 := Lib.hid hr2; have HF2 := Lib.hid hf2; clear hr2 hf2))
  refine bodyPost_ret (v := ansV 1 false ⟨#[]⟩ (.slice none 0 0) 0 0) (results_cell (a := 4) (t := 35) (ad := ⟨w.heap.size, 0, none⟩) Tryz.results46 rfl (load_row _ HR2.out _ Tryz.underlying35 rfl HMS.out)) rfl ⟨rfl, HB1.out.trans (HF2.out.to_below HB1.out.size (fun i hi e => by omega))⟩
set_option maxRecDepth 100000 in
theorem get_ok (bm g : Nat) (N : Int) (ls : List (List Itm)) (l : List Itm) (k : ByteArray) (w : World) (h : ModelAt w bm g N ls) (hl : ls[ls.length - 1]? = some l) (hn : ls.length ≤ 90000) (hln : l.length ≤ 60000) (hk : isKey k = true) :
    Calls Tryz.prog 46 #[.pointer (some ⟨bm, 0, none⟩), .string k] w fun e w' => e = .returned (ansV 0 (getL l k).isSome (strO (getL l k)) (.slice none 0 0) 0 0) ∧ Below w.heap.size w w' := by
  have hri : Rises l := by
    obtain ⟨_, _, _, _, _, _, _, _, _, _, _, hla⟩ := h.last hl
    exact hla.rises
  have hnow : ∀ W, Below w.heap.size w W → Calls Tryz.prog 48 #[.pointer (some ⟨bm, 0, none⟩)] W (NowRes l W) := fun W hW => now_any bm g N ls l W (h.below hW) hl (by omega)
  have hfi := fun p A c W (hla : LeafAt W p A c l) => find_any p c A l k W hla (by omega)
  rw [find_get _ hri] at hfi
  generalize strO (getL l k) = fs at *
  generalize (getL l k).isSome = fb at *
  have hi := fun W => keyIs_any k W
  rw [hk] at hi
  have HI := Lib.hid hi
  have HN := Lib.hid hnow
  have HF := Lib.hid hfi
  have HMS := Lib.hid ans_size
  clear hi hk hnow hfi hri h hl
  go_enter Tryz.func46, Tryz.ntmps46
  go_wp2_with (first
    | (go_at_call 31; (with_reducible refine (HI.out _).mono ?_); rintro e w1 ⟨rfl, hb1⟩; have HBX := Lib.hid (box_cells hb1); have HB1 := Lib.hid (below_next (below_alloc (Below.refl _ w)) hb1); clear hb1)
    | (go_at_call 48; (with_reducible refine (HN.out _ HB1.out).mono ?_); rintro e w2 ⟨p, A, c, rfl, hla, hb2⟩; have HLA := Lib.hid hla; have HB2 := Lib.hid hb2; clear hla hb2)
    | (go_at_call 77; (with_reducible refine (HF.out _ _ _ _ HLA.out).mono ?_); rintro e w3 ⟨rfl, hb3⟩; have hbx := (Fr.of_below (S := fun _ => False) (below_next HB2.out hb3)).row id HBX.out; have hb13 := below_next HB1.out (below_next HB2.out hb3); have d1 : w3.cell? ⟨w.heap.size, 1, none⟩ = some (.bool false) := (by rw [Lib.cell_of_heap hbx]; rfl); have d2 : w3.cell? ⟨w.heap.size, 2, none⟩ = some (.string ⟨#[]⟩) := (by rw [Lib.cell_of_heap hbx]; rfl); have f1 := Lib.frozen_of_heap hbx 1; have f2 := Lib.frozen_of_heap hbx 2; have hr5 := setCell_row (setCell_row hbx 2 (.string fs)) 1 (.bool fb); have hf5 : Fr (fun q => q = w.heap.size) w3 ((w3.setCell ⟨w.heap.size, 2, none⟩ (.string fs)).setCell ⟨w.heap.size, 1, none⟩ (.bool fb)) := ((Fr.refl (fun q => q = w.heap.size) w3).setCell (p := ⟨w.heap.size, 2, none⟩) (fun _ => rfl) _).setCell (p := ⟨w.heap.size, 1, none⟩) (fun _ => rfl) _; have HR5 := Lib.hid hr5; have HF5 := Lib.hid hf5; have HB3 := Lib.hid hb13; clear hr5 hf5 hbx hb13 hb3)
    | (refine wpList_load_mid rfl 35 (Operand.tmp 4) rfl w.heap.size 0 rfl (ansC 0 fb fs (.slice none 0 0) 0 0) _ (row_range HR5.out) Tryz.underlying35 rfl HMS.out ?_)
    | (refine wpList_store_row rfl 35 (Operand.tmp 4) (Operand.tmp 18) rfl w.heap.size _ (ansC 0 fb fs (.slice none 0 0) 0 0) _ rfl rfl HR5.out rfl HMS.out (ans_all _ _ _ _ _ _ _ _) ?_; intro w6 hr6 hf6; have HR6 := Lib.hid hr6; have HF6 := Lib.hid hf6; clear hr6 hf6))
  refine bodyPost_ret (v := ansV 0 fb fs (.slice none 0 0) 0 0) (results_cell (a := 4) (t := 35) (ad := ⟨w.heap.size, 0, none⟩) Tryz.results46 rfl (load_row _ HR6.out _ Tryz.underlying35 rfl HMS.out)) rfl ⟨rfl, HB3.out.trans ((HF5.out.tr HF6.out).to_below HB3.out.size (fun i hi e => by omega))⟩
end Go.Proofs.YtdfgdnaejnngoaaGreat
