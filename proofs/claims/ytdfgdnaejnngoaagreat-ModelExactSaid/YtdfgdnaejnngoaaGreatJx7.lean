import Derived.Test.YtdfgdnaejnngoaaGreatJx6
/-
  DERIVED: THE SHELF's CONTRACTS AT THIS DUMP, IN PLAIN WORDS (tools/lay-plain.mjs out of 'TryzShelf.lean', which tools/lay-shelf.mjs wrote): THE SAME DECLARATIONS UNDER THE SAME NAMES: 'import', 'namespace', 'open', 'def', 'theorem' AND NOTHING ELSE: no command of the shelf's: FOR A HAND-IN. Each laying: the table of numbers ('.._ren') and one theorem, a field a fact of the dump's own or the kernel's comparison; each contract: ONE APPLICATION.
-/
import Derived.Test.YtdfgdnaejnngoaaGreatJx1
import Derived.Test.YtdfgdnaejnngoaaGreatJx5
import Derived.RangeFuncNested
import Derived.RangeFuncLeaves
import Derived.RangeFuncBox
import Derived.OwnWalkIn
import Derived.TacticsInMore
import Derived.LoopNIn
import Derived.LoopIn
import Derived.Shelf.SlSortCmp.WholeK
import Derived.Test.YtdfgdnaejnngoaaGreatProg
set_option linter.unusedVariables false
set_option linter.unusedSimpArgs false
namespace Go.Proofs.YtdfgdnaejnngoaaGreat
open Go.RowKit
/-! model.scan. -/
set_option maxRecDepth 100000 in
theorem scan_bad (bm : Nat) (lo hi : ByteArray) (w : World) (hk : isRng lo hi = false) : Calls Tryz.prog 47 #[.pointer (some ⟨bm, 0, none⟩), .agg #[.string lo, .string hi]] w fun e w' => e = .returned (ansV 1 false ⟨#[]⟩ (.slice none 0 0) 0 0) ∧ Below w.heap.size w w' := by
  have hri := fun W => rangeIs_any lo hi W
  rw [hk] at hri
  have HI := Lib.hid hri
  have HMS := Lib.hid ans_size
  clear hri hk
  go_enter Tryz.func47, Tryz.ntmps47
  go_wp2_with (first
    | (go_at_call 80; (with_reducible refine (HI.out _).mono ?_); rintro e w1 ⟨rfl, hb1⟩; have hbx : w1.heap[w.heap.size + 1]? = some (.cells (ansC 0 false ⟨#[]⟩ (.slice none 0 0) 0 0).toArray 35 (0, 0)) := ((Fr.of_below (S := fun _ => False) hb1).row id (heap_new_at (by simp))); have HBX := Lib.hid hbx; have HB1 := Lib.hid (below_next (below_alloc (below_alloc (Below.refl _ w))) hb1); clear hb1 hbx)
    | (refine wpList_store_row rfl 35 (Operand.tmp 4) (Operand.tmp 8) rfl (w.heap.size + 1) _ (ansC 1 false ⟨#[]⟩ (.slice none 0 0) 0 0) _ rfl rfl HBX.out rfl HMS.out (ans_all _ _ _ _ _ _ _ _) ?_; intro w2 hr2 hf2; have HR2 := Lib.hid hr2; have HF2 := Lib.hid hf2; clear hr2 hf2))
  refine bodyPost_ret (v := ansV 1 false ⟨#[]⟩ (.slice none 0 0) 0 0) (results_cell (a := 4) (t := 35) (ad := ⟨w.heap.size + 1, 0, none⟩) Tryz.results47 rfl (load_row _ HR2.out _ Tryz.underlying35 rfl HMS.out)) rfl ⟨rfl, HB1.out.trans (HF2.out.to_below HB1.out.size (fun i hi e => by omega))⟩
set_option maxHeartbeats 1000000 in
set_option maxRecDepth 100000 in
theorem scan_ok (bm g : Nat) (N : Int) (ls : List (List Itm)) (l : List Itm) (lo hi : ByteArray) (w : World) (h : ModelAt w bm g N ls) (hl : ls[ls.length - 1]? = some l) (hn : ls.length ≤ 90000) (hln : l.length ≤ 60000) (hk : isRng lo hi = true) :
    Calls Tryz.prog 47 #[.pointer (some ⟨bm, 0, none⟩), .agg #[.string lo, .string hi]] w fun e w' => ∃ A n c, e = .returned (ansV 0 false ⟨#[]⟩ (.slice A n c) 0 0) ∧ OwnsM w' w.heap.size (.slice A n c) (withinL lo hi l) ∧ Below w.heap.size w w' := by
  have hnow : ∀ W, Below w.heap.size w W → Calls Tryz.prog 48 #[.pointer (some ⟨bm, 0, none⟩)] W (NowRes l W) := fun W hW => now_any bm g N ls l W (h.below hW) hl (by omega)
  have hwi := fun p A c W (hla : LeafAt W p A c l) => within_any p c A lo hi l W hla (by omega)
  have hwl := within_len lo hi l
  have hit := fun p A c W (hla : LeafAt W p A c (withinL lo hi l)) => items_any p c A _ W hla (by omega)
  have hri := fun W => rangeIs_any lo hi W
  rw [hk] at hri
  have HI := Lib.hid hri
  have HN := Lib.hid hnow
  have HW := Lib.hid hwi
  have HT := Lib.hid hit
  have HMS := Lib.hid ans_size
  generalize hD : withinL lo hi l = D at *
  clear hri hk hnow hwi hit h hl hwl hD
  go_enter Tryz.func47, Tryz.ntmps47
  go_wp2_with (go_at_call 80; (with_reducible refine (HI.out _).mono ?_); rintro e w1 ⟨rfl, hb1⟩; have hbx : w1.heap[w.heap.size + 1]? = some (.cells (ansC 0 false ⟨#[]⟩ (.slice none 0 0) 0 0).toArray 35 (0, 0)) := ((Fr.of_below (S := fun _ => False) hb1).row id (heap_new_at (by simp))); have HBX := Lib.hid hbx; have hbc : w1.heap[w.heap.size]? = some (.cells #[.string lo, .string hi] 97 (0, 0)) := ((Fr.of_below (S := fun _ => False) hb1).row id (((Fr.refl (fun _ => False) _).alloc _).row id (heap_alloc_new w _))); have HBC := Lib.hid hbc; have HB1 := Lib.hid (below_next (below_alloc (below_alloc (Below.refl _ w))) hb1); clear hb1 hbx hbc)
  have B1 := HB1.out
  have hbx := HBX.out
  have c0 : w1.cell? ⟨w.heap.size, 0, none⟩ = some (.string lo) := by rw [Lib.cell_of_heap HBC.out]; rfl
  have c1 : w1.cell? ⟨w.heap.size, 1, none⟩ = some (.string hi) := by rw [Lib.cell_of_heap HBC.out]; rfl
  have hxl : w.heap.size < w1.heap.size := lt_of_row HBC.out
  refine rg_start (n := 7) (fun w' => Below w.heap.size w w' ∧ w'.cell? ⟨w.heap.size, 0, none⟩ = some (.string lo) ∧ w'.cell? ⟨w.heap.size, 1, none⟩ = some (.string hi) ∧ w.heap.size < w'.heap.size) #[false, false, false, false, false, false, false] (by kernel_rfl) rfl rfl ⟨B1.drew, c0, c1, hxl⟩ (fun hHeld => ?_)
  refine rg_take (i := 0) (N := (some 9)) (v := ?_) (a' := ?_) #[true, false, false, false, false, false, false] rfl rfl (by kernel_rfl) (fun _ _ _ h => h) (by rfl) ?_ hHeld ?_ ?_
  rotate_left 2
  · rintro w' ⟨s0, s1, s2, s3⟩
    go_simp
    try with_reducible rfl
  · simp only [Act.put, List.setIfInBounds_toArray, List.set_cons_zero, List.set_cons_succ]
    rfl
  refine rg_take (i := 2) (N := (some 11)) (v := ?_) (a' := ?_) #[true, false, true, false, false, false, false] rfl rfl (by kernel_rfl) (fun _ _ _ h => h) (by rfl) ?_ hHeld ?_ ?_
  rotate_left 2
  · rintro w' ⟨s0, s1, s2, s3⟩
    go_simp
    try with_reducible rfl
  · simp only [Act.put, List.setIfInBounds_toArray, List.set_cons_zero, List.set_cons_succ]
    rfl
  refine rg_one (i := 1) #[true, true, true, false, false, false, false] rfl (by kernel_rfl) (by rfl) (fun K hK => ?_)
  obtain ⟨s0, s1, s2, s3⟩ := hHeld
  repeat go_step
  ((with_reducible refine (HN.out _ s0).mono ?_); rintro e w2 ⟨p, A, c, rfl, hla, hb2⟩; have hbx := (Fr.of_below (S := fun _ => False) hb2).row id hbx)
  try dsimp only
  refine hK.out _ _ ?_ (fun hHeld => ?_)
  · (repeat (first | (with_reducible assumption) | (with_reducible apply And.intro) | (with_reducible refine keep_cell (w := ?_) ?_ ?_ ?_; rotate_left; with_reducible assumption) | (with_reducible refine keep_cell_alloc ?_ ?_) | (with_reducible refine keep_lt (w := ?_) ?_ ?_; rotate_left; with_reducible assumption) | (with_reducible refine keep_lt_alloc ?_) | (with_reducible refine below_next (w := ?_) ?_ ?_; rotate_left 2; with_reducible assumption) | (with_reducible refine below_alloc ?_) | (with_reducible refine Below.drew ?_) | (with_reducible refine keep_lt_drew ?_) | (with_reducible refine keep_cell_drew ?_)))
  clear hK K
  clear s0 s1 s2 s3
  refine rg_one (i := 3) #[true, true, true, true, false, false, false] rfl (by kernel_rfl) (by rfl) (fun K hK => ?_)
  obtain ⟨s0, s1, s2, s3⟩ := hHeld
  repeat go_step
  ((with_reducible refine (HW.out p A c _ hla).mono ?_); rintro e w3 ⟨p3, A3, c3, rfl, hla3, _, _, hb3⟩; have hbx := (Fr.of_below (S := fun _ => False) hb3).row id hbx)
  try dsimp only
  refine hK.out _ _ ?_ (fun hHeld => ?_)
  · (repeat (first | (with_reducible assumption) | (with_reducible apply And.intro) | (with_reducible refine keep_cell (w := ?_) ?_ ?_ ?_; rotate_left; with_reducible assumption) | (with_reducible refine keep_cell_alloc ?_ ?_) | (with_reducible refine keep_lt (w := ?_) ?_ ?_; rotate_left; with_reducible assumption) | (with_reducible refine keep_lt_alloc ?_) | (with_reducible refine below_next (w := ?_) ?_ ?_; rotate_left 2; with_reducible assumption) | (with_reducible refine below_alloc ?_) | (with_reducible refine Below.drew ?_) | (with_reducible refine keep_lt_drew ?_) | (with_reducible refine keep_cell_drew ?_)))
  clear hK K
  clear s0 s1 s2 s3
  refine rg_one (i := 4) #[true, true, true, true, true, false, false] rfl (by kernel_rfl) (by rfl) (fun K hK => ?_)
  obtain ⟨s0, s1, s2, s3⟩ := hHeld
  repeat go_step
  ((with_reducible refine (HT.out p3 A3 c3 _ hla3).mono ?_); rintro e w4 ⟨A4, c4, rfl, ho4, hb4⟩; have hs4 := lt_of_row hbx; have hbx := (Fr.of_below (S := fun _ => False) hb4).row id hbx)
  try dsimp only
  refine hK.out _ _ ?_ (fun hHeld => ?_)
  · (repeat (first | (with_reducible assumption) | (with_reducible apply And.intro) | (with_reducible refine keep_cell (w := ?_) ?_ ?_ ?_; rotate_left; with_reducible assumption) | (with_reducible refine keep_cell_alloc ?_ ?_) | (with_reducible refine keep_lt (w := ?_) ?_ ?_; rotate_left; with_reducible assumption) | (with_reducible refine keep_lt_alloc ?_) | (with_reducible refine below_next (w := ?_) ?_ ?_; rotate_left 2; with_reducible assumption) | (with_reducible refine below_alloc ?_) | (with_reducible refine Below.drew ?_) | (with_reducible refine keep_lt_drew ?_) | (with_reducible refine keep_cell_drew ?_)))
  clear hK K
  clear s0 s1 s2 s3
  refine rg_take (i := 5) (N := (some 14)) (v := ?_) (a' := ?_) #[true, true, true, true, true, true, false] rfl rfl (by kernel_rfl) (fun _ _ _ h => h) (by rfl) ?_ hHeld ?_ ?_
  rotate_left 2
  · rintro w' ⟨s0, s1, s2, s3⟩
    go_simp
    try with_reducible rfl
  · simp only [Act.put, List.setIfInBounds_toArray, List.set_cons_zero, List.set_cons_succ]
    rfl
  refine rg_one (i := 6) #[true, true, true, true, true, true, true] rfl (by kernel_rfl) (by rfl) (fun K hK => ?_)
  obtain ⟨s0, s1, s2, s3⟩ := hHeld
  (refine oper_store_row 35 (Operand.tmp 4) (Operand.tmp 14) rfl (w.heap.size + 1) _ (ansC 0 false ⟨#[]⟩ (.slice A4 D.length c4) 0 0) _ rfl rfl hbx rfl HMS.out (ans_all _ _ _ _ _ _ _ _) ?_; intro w6 hr6 hf6; simp only [Act.put])
  repeat go_step
  refine hK.out _ _ ?_ (fun hHeld => ?_)
  · exact ⟨s0.trans (hf6.to_below s0.size (fun i hi e => by omega)), hf6.cell s3 (by omega) s1, hf6.cell s3 (by omega) s2, Nat.lt_of_lt_of_le s3 hf6.size⟩
  clear hK K
  clear s0 s1 s2 s3
  refine rg_done (by kernel_rfl) ?_
  have ho6 := (ho4.fr hf6 (fun k hk e => by omega)).base (B' := w.heap.size) (by omega)
  have HR6 := Lib.hid hr6
  have HO6 := Lib.hid ho6
  have HB6 := Lib.hid hHeld.1
  clear hr6 ho6 hf6 hHeld
  go_wp2
  refine bodyPost_ret (v := ansV 0 false ⟨#[]⟩ (.slice A4 D.length c4) 0 0) (results_cell (a := 4) (t := 35) (ad := ⟨w.heap.size + 1, 0, none⟩) Tryz.results47 rfl (load_row _ HR6.out _ Tryz.underlying35 rfl HMS.out)) rfl ⟨A4, D.length, c4, rfl, HO6.out, HB6.out⟩
end Go.Proofs.YtdfgdnaejnngoaaGreat
namespace Go.Proofs.YtdfgdnaejnngoaaGreat
open Go.RowKit
/-! model.safe. -/
theorem model_safe {w : World} {bm g : Nat} {N : Int} {ls : List (List Itm)} {l : List Itm} (h : ModelAt w bm g N ls) (hl : ls[ls.length - 1]? = some l) {off n cap : Nat} (c7 : w.cell? ⟨bm, 7, none⟩ = some (.slice (some ⟨g, off, none⟩) (n + 1) cap)) (hn : n + 1 = ls.length) :
    ModelAt (w.setCell ⟨bm, 7, none⟩ (.slice (some ⟨g, off + n, none⟩) 1 (cap - n))) bm g N [l] ∧ Fr (fun k => k = bm) w (w.setCell ⟨bm, 7, none⟩ (.slice (some ⟨g, off + n, none⟩) 1 (cap - n))) := by
  have hF : Fr (fun k => k = bm) w (w.setCell ⟨bm, 7, none⟩ (.slice (some ⟨g, off + n, none⟩) 1 (cap - n))) := (Fr.refl (fun k => k = bm) w).setCell (p := ⟨bm, 7, none⟩) (fun _ => rfl) _
  obtain ⟨off', n', cap', ps, hrow, hra, hps, hlv⟩ := h.row
  have hd := (plan_cells hrow).2.2.2.2.2.2.2
  rw [hd] at c7
  simp only [Option.some.injEq, Value.slice.injEq, Addr.mk.injEq, true_and, and_true] at c7
  obtain ⟨rfl, rfl, rfl⟩ := c7
  have hle := hra.le
  have hcm := hra.cm
  obtain ⟨cur, hgr, hfit, hcur⟩ := hra.blk
  have hgb : ¬ g = bm := fun e => kinds_ne hgr hrow (by decide) e
  obtain ⟨p, hp⟩ := get_lt (l := ps) (i := ls.length - 1) (by omega)
  obtain ⟨A, c, hla, hap⟩ := hlv _ p l hp hl
  have h1 : ¬ p = bm := fun e => kinds_ne hla.cell hrow (by decide) e
  have hj : ls.length - 1 = n := by omega
  rw [hj] at hp
  refine ⟨⟨⟨off' + n, 1, cap' - n, [p], ?_, ⟨rfl, ⟨cur, hF.row hgb hgr, by omega, ?_⟩, by omega, by omega⟩, rfl, ?_⟩, by simp⟩, hF⟩
  · have hpa : (planA N ++ #[.slice (some ⟨g, off', none⟩) (n + 1) cap']) = ([.int .i64 N, .int .i64 (pLog N), .int .i64 (2 + pLog N), .int .i64 (pData N), .int .i64 (pHalf N), .int .i64 (pLeaves N), .int .i64 (pCap N), .slice (some ⟨g, off', none⟩) (n + 1) cap'] : List Value).toArray := rfl
    rw [hpa] at hrow
    exact setCell_row hrow 7 (.slice (some ⟨g, off' + n, none⟩) 1 (cap' - n))
  · intro j q hq
    rcases j with _ | j
    · simp at hq
      subst hq
      exact hcur n p hp
    · simp at hq
  · intro j q l' hq hl'
    rcases j with _ | j
    · simp at hq hl'
      subst hq hl'
      exact ⟨A, c, hla.fr hF h1 (fun hn' ad e => (hap hn' ad e).1), hap⟩
    · simp at hq
set_option maxHeartbeats 1000000 in
set_option maxRecDepth 100000 in
theorem safe_any (bm g : Nat) (N : Int) (ls : List (List Itm)) (l : List Itm) (w : World) (h : ModelAt w bm g N ls) (hl : ls[ls.length - 1]? = some l) (hn : ls.length ≤ 90000) :
    Calls Tryz.prog 51 #[.pointer (some ⟨bm, 0, none⟩)] w fun e w' => e = .returned (.tuple #[]) ∧ ModelAt w' bm g N [l] ∧ Fr (fun k => k = bm) w w' := by
  obtain ⟨off, n, cap, p, A, c, c7, hn1, hnc, hcm, cp, hla⟩ := h.last hl
  obtain ⟨off', n', cap', ps, hrow, hra, hps, hlv⟩ := h.row
  have f7 := Lib.frozen_of_heap hrow 7
  have hw1 : IntKind.i64.wrap ((n : Int) + 1 - 1) = (n : Int) := by rw [IntKind.wrap_i64]; omega
  have hw2 : IntKind.i64.wrap (n : Int) = (n : Int) := by rw [IntKind.wrap_i64]; omega
  have hsf := fun W (hW : Below w.heap.size w W) c7 => model_safe (h.below hW) hl (off := off) (n := n) (cap := cap) c7 hn1
  have HSF := Lib.hid hsf
  have hnn : n ≤ 90000 := by omega
  have hcn : ¬ cap = n := by omega
  have hnI : (n : Int) ≤ (n : Int) + 1 := by omega
  clear h hl hra hps hlv hrow cp hla hsf hn1 hcm
  have hd7 : w.drew.cell? ⟨bm, 7, none⟩ = some (.slice (some ⟨g, off, none⟩) (n + 1) cap) := c7
  have hf7 : w.drew.frozen? ⟨bm, 7, none⟩ = false := f7
  go_enter Tryz.func51, Tryz.ntmps51
  refine rg_start (n := 15) (fun w' => True) #[false, false, false, false, false, false, false, false, false, false, false, false, false, false, false] (by kernel_rfl) rfl rfl trivial (fun hHeld => ?_)
  refine rg_take (i := 0) (N := (some 2)) (v := ?_) (a' := ?_) #[true, false, false, false, false, false, false, false, false, false, false, false, false, false, false] rfl rfl (by kernel_rfl) (fun _ _ _ h => h) (by rfl) ?_ hHeld ?_ ?_
  rotate_left 2
  · rintro w' _s
    go_simp
    try with_reducible rfl
  · simp only [Act.put, List.setIfInBounds_toArray, List.set_cons_zero, List.set_cons_succ]
    rfl
  refine rg_take (i := 1) (N := (some 3)) (v := ?_) (a' := ?_) #[true, true, false, false, false, false, false, false, false, false, false, false, false, false, false] rfl rfl (by kernel_rfl) (fun _ _ _ h => h) (by rfl) ?_ hHeld ?_ ?_
  rotate_left 2
  · rintro w' _s
    go_simp
    try with_reducible rfl
  · simp only [Act.put, List.setIfInBounds_toArray, List.set_cons_zero, List.set_cons_succ]
    rfl
  refine rg_take (i := 2) (N := (some 4)) (v := ?_) (a' := ?_) #[true, true, true, false, false, false, false, false, false, false, false, false, false, false, false] rfl rfl (by kernel_rfl) (fun _ _ _ h => h) (by rfl) ?_ hHeld ?_ ?_
  rotate_left 2
  · rintro w' _s
    go_simp
    try with_reducible rfl
  · simp only [Act.put, List.setIfInBounds_toArray, List.set_cons_zero, List.set_cons_succ]
    rfl
  refine rg_take (i := 3) (N := (some 5)) (v := ?_) (a' := ?_) #[true, true, true, true, false, false, false, false, false, false, false, false, false, false, false] rfl rfl (by kernel_rfl) (fun _ _ _ h => h) (by rfl) ?_ hHeld ?_ ?_
  rotate_left 2
  · rintro w' _s
    go_simp
    try with_reducible rfl
  · simp only [Act.put, List.setIfInBounds_toArray, List.set_cons_zero, List.set_cons_succ]
    rfl
  refine rg_take (i := 5) (N := (some 7)) (v := ?_) (a' := ?_) #[true, true, true, true, false, true, false, false, false, false, false, false, false, false, false] rfl rfl (by kernel_rfl) (fun _ _ _ h => h) (by rfl) ?_ hHeld ?_ ?_
  rotate_left 2
  · rintro w' _s
    go_simp
    try with_reducible rfl
  · simp only [Act.put, List.setIfInBounds_toArray, List.set_cons_zero, List.set_cons_succ]
    rfl
  refine rg_take (i := 6) (N := (some 8)) (v := ?_) (a' := ?_) #[true, true, true, true, false, true, true, false, false, false, false, false, false, false, false] rfl rfl (by kernel_rfl) (fun _ _ _ h => h) (by rfl) ?_ hHeld ?_ ?_
  rotate_left 2
  · rintro w' _s
    go_simp
    try with_reducible rfl
  · simp only [Act.put, List.setIfInBounds_toArray, List.set_cons_zero, List.set_cons_succ]
    rfl
  refine rg_take (i := 7) (N := (some 9)) (v := ?_) (a' := ?_) #[true, true, true, true, false, true, true, true, false, false, false, false, false, false, false] rfl rfl (by kernel_rfl) (fun _ _ _ h => h) (by rfl) ?_ hHeld ?_ ?_
  rotate_left 2
  · rintro w' _s
    go_simp
    try with_reducible rfl
  · simp only [Act.put, List.setIfInBounds_toArray, List.set_cons_zero, List.set_cons_succ]
    rfl
  refine rg_two (i := 4) (j := 8) #[true, true, true, true, true, true, true, true, false, false, false, false, false, false, false] #[true, true, true, true, false, true, true, true, true, false, false, false, false, false, false] rfl rfl (by kernel_rfl) (by rfl) (by rfl) (fun K hK => ?_) (fun K hK => ?_)
  · skip
    repeat go_step
    (skip)
    try dsimp only
    refine hK.out _ _ ?_ (fun hHeld => ?_)
    · trivial
    clear hK K
    refine rg_one (i := 8) #[true, true, true, true, true, true, true, true, true, false, false, false, false, false, false] rfl (by kernel_rfl) (by rfl) (fun K hK => ?_)
    repeat go_step
    (skip)
    try dsimp only
    refine hK.out _ _ ?_ (fun hHeld => ?_)
    · trivial
    clear hK K
    refine rg_take (i := 9) (N := (some 11)) (v := ?_) (a' := ?_) #[true, true, true, true, true, true, true, true, true, true, false, false, false, false, false] rfl rfl (by kernel_rfl) (fun _ _ _ h => h) (by rfl) ?_ hHeld ?_ ?_
    rotate_left 2
    · rintro w' _s
      go_simp
      try with_reducible rfl
    · simp only [Act.put, List.setIfInBounds_toArray, List.set_cons_zero, List.set_cons_succ]
      rfl
    refine rg_take (i := 10) (N := (some 12)) (v := ?_) (a' := ?_) #[true, true, true, true, true, true, true, true, true, true, true, false, false, false, false] rfl rfl (by kernel_rfl) (fun _ _ _ h => h) (by rfl) ?_ hHeld ?_ ?_
    rotate_left 2
    · rintro w' _s
      go_simp
      try with_reducible rfl
    · simp only [Act.put, List.setIfInBounds_toArray, List.set_cons_zero, List.set_cons_succ]
      rfl
    refine rg_take (i := 11) (N := (some 13)) (v := ?_) (a' := ?_) #[true, true, true, true, true, true, true, true, true, true, true, true, false, false, false] rfl rfl (by kernel_rfl) (fun _ _ _ h => h) (by rfl) ?_ hHeld ?_ ?_
    rotate_left 2
    · rintro w' _s
      go_simp
      try with_reducible rfl
    · simp only [Act.put, List.setIfInBounds_toArray, List.set_cons_zero, List.set_cons_succ]
      rfl
    refine rg_take (i := 12) (N := (some 14)) (v := ?_) (a' := ?_) #[true, true, true, true, true, true, true, true, true, true, true, true, true, false, false] rfl rfl (by kernel_rfl) (fun _ _ _ h => h) (by rfl) ?_ hHeld ?_ ?_
    rotate_left 2
    · rintro w' _s
      go_simp
      try with_reducible rfl
    · simp only [Act.put, List.setIfInBounds_toArray, List.set_cons_zero, List.set_cons_succ]
      rfl
    refine rg_take (i := 13) (N := (some 15)) (v := ?_) (a' := ?_) #[true, true, true, true, true, true, true, true, true, true, true, true, true, true, false] rfl rfl (by kernel_rfl) (fun _ _ _ h => h) (by rfl) ?_ hHeld ?_ ?_
    rotate_left 2
    · rintro w' _s
      go_simp
      try with_reducible rfl
    · simp only [Act.put, List.setIfInBounds_toArray, List.set_cons_zero, List.set_cons_succ]
      rfl
    refine rg_one (i := 14) #[true, true, true, true, true, true, true, true, true, true, true, true, true, true, true] rfl (by kernel_rfl) (by rfl) (fun K hK => ?_)
    repeat go_step
    refine hK.out _ _ ?_ (fun hHeld => ?_)
    · trivial
    clear hK K
    refine rg_done (by kernel_rfl) ?_
    go_end0
    obtain ⟨hm, hf⟩ := HSF.out w.drew (Below.refl _ w).drew hd7
    exact ⟨rfl, hm, (Fr.refl (fun k => k = bm) w).drew.tr hf⟩
  · skip
    repeat go_step
    (skip)
    try dsimp only
    refine hK.out _ _ ?_ (fun hHeld => ?_)
    · trivial
    clear hK K
    refine rg_take (i := 9) (N := (some 11)) (v := ?_) (a' := ?_) #[true, true, true, true, false, true, true, true, true, true, false, false, false, false, false] rfl rfl (by kernel_rfl) (fun _ _ _ h => h) (by rfl) ?_ hHeld ?_ ?_
    rotate_left 2
    · rintro w' _s
      go_simp
      try with_reducible rfl
    · simp only [Act.put, List.setIfInBounds_toArray, List.set_cons_zero, List.set_cons_succ]
      rfl
    refine rg_take (i := 10) (N := (some 12)) (v := ?_) (a' := ?_) #[true, true, true, true, false, true, true, true, true, true, true, false, false, false, false] rfl rfl (by kernel_rfl) (fun _ _ _ h => h) (by rfl) ?_ hHeld ?_ ?_
    rotate_left 2
    · rintro w' _s
      go_simp
      try with_reducible rfl
    · simp only [Act.put, List.setIfInBounds_toArray, List.set_cons_zero, List.set_cons_succ]
      rfl
    refine rg_one (i := 4) #[true, true, true, true, true, true, true, true, true, true, true, false, false, false, false] rfl (by kernel_rfl) (by rfl) (fun K hK => ?_)
    repeat go_step
    (skip)
    try dsimp only
    refine hK.out _ _ ?_ (fun hHeld => ?_)
    · trivial
    clear hK K
    refine rg_take (i := 11) (N := (some 13)) (v := ?_) (a' := ?_) #[true, true, true, true, true, true, true, true, true, true, true, true, false, false, false] rfl rfl (by kernel_rfl) (fun _ _ _ h => h) (by rfl) ?_ hHeld ?_ ?_
    rotate_left 2
    · rintro w' _s
      go_simp
      try with_reducible rfl
    · simp only [Act.put, List.setIfInBounds_toArray, List.set_cons_zero, List.set_cons_succ]
      rfl
    refine rg_take (i := 12) (N := (some 14)) (v := ?_) (a' := ?_) #[true, true, true, true, true, true, true, true, true, true, true, true, true, false, false] rfl rfl (by kernel_rfl) (fun _ _ _ h => h) (by rfl) ?_ hHeld ?_ ?_
    rotate_left 2
    · rintro w' _s
      go_simp
      try with_reducible rfl
    · simp only [Act.put, List.setIfInBounds_toArray, List.set_cons_zero, List.set_cons_succ]
      rfl
    refine rg_take (i := 13) (N := (some 15)) (v := ?_) (a' := ?_) #[true, true, true, true, true, true, true, true, true, true, true, true, true, true, false] rfl rfl (by kernel_rfl) (fun _ _ _ h => h) (by rfl) ?_ hHeld ?_ ?_
    rotate_left 2
    · rintro w' _s
      go_simp
      try with_reducible rfl
    · simp only [Act.put, List.setIfInBounds_toArray, List.set_cons_zero, List.set_cons_succ]
      rfl
    refine rg_one (i := 14) #[true, true, true, true, true, true, true, true, true, true, true, true, true, true, true] rfl (by kernel_rfl) (by rfl) (fun K hK => ?_)
    repeat go_step
    refine hK.out _ _ ?_ (fun hHeld => ?_)
    · trivial
    clear hK K
    refine rg_done (by kernel_rfl) ?_
    go_end0
    obtain ⟨hm, hf⟩ := HSF.out w.drew (Below.refl _ w).drew hd7
    exact ⟨rfl, hm, (Fr.refl (fun k => k = bm) w).drew.tr hf⟩
end Go.Proofs.YtdfgdnaejnngoaaGreat
namespace Go.Proofs.YtdfgdnaejnngoaaGreat
open Go.RowKit
/-! model.Do. -/
/-- what is answered: error, whether, value, items, number, weight -/
def ansO (c : Int) (now : List Itm) (o : Ord) : Int × Bool × ByteArray × List Itm × Int × Int :=
  if isOrd o = true then
    (match msgO o with
     | some m => (errU c now m, false, ⟨#[]⟩, [], 0, 0)
     | none => if o.kind = 4 then (if isKey o.key = true then (0, (getL now o.key).isSome, strO (getL now o.key), [], 0, 0) else (1, false, ⟨#[]⟩, [], 0, 0))
       else if o.kind = 5 then (if isRng o.lo o.hi = true then (0, false, ⟨#[]⟩, withinL o.lo o.hi now, 0, 0) else (1, false, ⟨#[]⟩, [], 0, 0))
       else if o.kind = 8 then (0, false, ⟨#[]⟩, [], now.length, sumW now) else (0, false, ⟨#[]⟩, [], 0, 0))
  else (1, false, ⟨#[]⟩, [], 0, 0)
def rowsO (c : Int) (ls : List (List Itm)) (now : List Itm) (o : Ord) : List (List Itm) :=
  if isOrd o = true then
    (match msgO o with
     | some m => rowsU c ls now m
     | none => if o.kind = 4 ∨ o.kind = 5 ∨ o.kind = 8 then ls else [now])
  else ls
theorem ansO_err (c : Int) (now : List Itm) (o : Ord) : (ansO c now o).1 = errO c now o := by
  unfold ansO errO
  by_cases h : isOrd o = true
  · rw [if_pos h, if_pos h]
    cases msgO o with
    | some m => rfl
    | none =>
      dsimp only
      split
      · split <;> rfl
      · split
        · split <;> rfl
        · split <;> rfl
  · rw [if_neg h, if_neg h]
def DoRes2 (bm g : Nat) (N : Int) (a : Int × Bool × ByteArray × List Itm × Int × Int) (ls' : List (List Itm)) (w : World) (e : Ending) (w' : World) : Prop :=
  ∃ A k c, e = .returned (ansV a.1 a.2.1 a.2.2.1 (.slice A k c) a.2.2.2.2.1 a.2.2.2.2.2) ∧ OwnsM w' w.heap.size (.slice A k c) a.2.2.2.1 ∧ ∃ g', ModelAt w' bm g' N ls' ∧ (g' = g ∨ w.heap.size ≤ g') ∧ Fr (fun k => k = bm ∨ k = g) w w'
theorem do_keep {w w' : World} {bm g : Nat} {N : Int} {ls : List (List Itm)} (h : ModelAt w bm g N ls) (hb : Below w.heap.size w w') {err : Int} {has : Bool} {val : ByteArray} {n wt : Int} :
    DoRes2 bm g N (err, has, val, [], n, wt) ls w (.returned (ansV err has val (.slice none 0 0) n wt)) w' := ⟨none, 0, 0, rfl, OwnsG.nil _ _, g, h.below hb, .inl rfl, Fr.of_below hb⟩
/-- a block that is none of the model's -/
theorem model_other {w w' : World} {bm g q : Nat} {N : Int} {ls : List (List Itm)} {cs : List Value} {T : TypeId} (h : ModelAt w bm g N ls) (hq : w.heap[q]? = some (.cells cs.toArray T (0, 0))) (h1 : T ≠ 102) (h2 : T ≠ 98) (h3 : T ≠ 139)
    (hns : ∀ i a b, cs[i]? = some (.string a) → cs[i + 1]? = some (.string b) → False) (hf : Fr (fun k => k = q) w w') : ModelAt w' bm g N ls := by
  obtain ⟨off, n, cap, ps, hrow, hra, hps, hlv⟩ := h.row
  obtain ⟨cur, hgr, hfit, hcur⟩ := hra.blk
  refine ⟨⟨off, n, cap, ps, hf.row (fun e => kinds_ne hrow hq h1.symm e) hrow, hra.fr hf (fun e => kinds_ne hgr hq h2.symm e), hps, fun j p l hp hl => ?_⟩, h.pos⟩
  obtain ⟨A, c, hla, hap⟩ := hlv j p l hp hl
  refine ⟨A, c, hla.fr hf (fun e => kinds_ne hla.cell hq h3.symm e) (fun hn ad e hb => ?_), hap⟩
  obtain ⟨x, l', rfl⟩ := List.exists_cons_of_ne_nil hn
  obtain ⟨b, o, e2, hlt, hc⟩ := hla.els 0 x.cells rfl
  rw [e] at e2
  cases e2
  have hb : b = q := hb
  subst hb
  have c0 := hc 0 _ rfl
  have c1 := hc 1 _ rfl
  rw [Lib.cell_of_heap hq] at c0 c1
  refine hns (o + 0 * 2) x.key x.val ?_ ?_
  · simpa using c0
  · simpa using c1
theorem ans_nopair (err : Int) (has : Bool) (val : ByteArray) (A : Option Addr) (n c : Nat) (m wt : Int) : ∀ i a b, (ansC err has val (.slice A n c) m wt)[i]? = some (.string a) → (ansC err has val (.slice A n c) m wt)[i + 1]? = some (.string b) → False := by
  intro i a b h1 h2
  rcases i with _ | _ | _ | _ | _ | _ | _ | _ | _ | _ | _ | _ | _ | i <;> simp [ansC] at h1 h2
/-- an answer, written behind the deed -/
theorem do_done {w w2 w3 w9 : World} {bm g g3 s : Nat} {N : Int} {ls' : List (List Itm)} {a : Int × Bool × ByteArray × List Itm × Int × Int} {A : Option Addr} {k c : Nat} (hbl : bm < w.heap.size) (hb2 : Below w.heap.size w w2) (hm3 : ModelAt w3 bm g3 N ls') (hg3 : g3 = g ∨ w2.heap.size ≤ g3) (hf3 : Fr (fun k => k = bm ∨ k = g) w2 w3)
    (hq : w3.heap[s]? = some (.cells (ansC 0 false ⟨#[]⟩ (.slice none 0 0) 0 0).toArray 35 (0, 0))) (hs : w.heap.size ≤ s) (hf9 : Fr (fun k => k = s) w3 w9) (hown : OwnsM w9 w.heap.size (.slice A k c) a.2.2.2.1) :
    DoRes2 bm g N a ls' w (.returned (ansV a.1 a.2.1 a.2.2.1 (.slice A k c) a.2.2.2.2.1 a.2.2.2.2.2)) w9 := by
  have hsz := hb2.size
  refine ⟨A, k, c, rfl, hown, g3, model_other hm3 hq (by decide) (by decide) (by decide) (ans_nopair _ _ _ _ _ _ _ _) hf9, ?_, ?_⟩
  · rcases hg3 with e | e
    · exact .inl e
    · exact .inr (by omega)
  · exact ((Fr.of_below hb2).tr hf3).trans (hf9) (fun i hi e => by omega)
abbrev zeroC : List Value := ansC 0 false ⟨#[]⟩ (.slice none 0 0) 0 0
abbrev OBox (s : Nat) (o : Ord) (w : World) : Prop := w.heap[s]? = some (.cells o.cells.toArray 39 (0, 0))
abbrev ABox (s : Nat) (w : World) : Prop := w.heap[s]? = some (.cells zeroC.toArray 35 (0, 0))
theorem ord_size : (Tryz.prog.info? 39).map (·.size) = some 6 := by kernel_rfl
theorem box_below {w w' : World} {s : Nat} {o : Obj} (h : w.heap[s]? = some o) (hb : Below w.heap.size w w') : w'.heap[s]? = some o := (Fr.of_below (S := fun _ => False) hb).row id h
set_option maxRecDepth 100000 in
theorem do_bad (bm g : Nat) (N : Int) (ls : List (List Itm)) (o : Ord) (w : World) (h : ModelAt w bm g N ls) (ho : isOrd o = false) :
    Calls Tryz.prog 12 #[.pointer (some ⟨bm, 0, none⟩), o.v] w (DoRes2 bm g N (1, false, ⟨#[]⟩, [], 0, 0) ls w) := by
  have hia := fun W => is_any o W
  rw [ho] at hia
  obtain ⟨kind, key, val, n, lo, hi⟩ := o
  rw [Ord.v_def] at hia ⊢
  have HI := Lib.hid hia
  have HMO := Lib.hid h
  have HMS := Lib.hid ans_size
  clear hia ho h
  go_enter Tryz.func12, Tryz.ntmps12
  go_wp2_with (first
    | (go_at_call 43; (with_reducible refine (HI.out _).mono ?_); rintro e w1 ⟨rfl, hb1⟩; have hbo : OBox w.heap.size ⟨kind, key, val, n, lo, hi⟩ w1 := box_below (((Fr.refl (fun _ => False) _).alloc _).row id (heap_alloc_new w _)) hb1; have hba : ABox (w.heap.size + 1) w1 := box_below (heap_new_at (by simp)) hb1; have HBO := Lib.hid hbo; have HBA := Lib.hid hba; have HB1 := Lib.hid (below_next (below_alloc (below_alloc (Below.refl _ w))) hb1); clear hb1 hbo hba)
    | (refine wpList_store_row rfl 35 (Operand.tmp 4) (Operand.tmp 15) rfl (w.heap.size + 1) _ (ansC 1 false ⟨#[]⟩ (.slice none 0 0) 0 0) _ rfl rfl HBA.out rfl HMS.out (ans_all _ _ _ _ _ _ _ _) ?_; intro w9 hr9 hf9; have HR9 := Lib.hid hr9; have HF9 := Lib.hid hf9; clear hr9 hf9))
  refine bodyPost_ret (v := ansV 1 false ⟨#[]⟩ (.slice none 0 0) 0 0) (results_cell (a := 4) (t := 35) (ad := ⟨w.heap.size + 1, 0, none⟩) Tryz.results12 rfl (load_row _ HR9.out _ Tryz.underlying35 rfl HMS.out)) rfl (do_keep HMO.out (HB1.out.trans (HF9.out.to_below HB1.out.size (fun i hi e => by omega))))
set_option maxHeartbeats 1000000 in
set_option maxRecDepth 100000 in
theorem do_msg (bm g : Nat) (N : Int) (ls : List (List Itm)) (l : List Itm) (o : Ord) (m : Mg) (w : World) (h : ModelAt w bm g N ls) (hl : ls[ls.length - 1]? = some l) (hn : ls.length ≤ 90000) (hln : l.length ≤ 60000) (h0 : 0 ≤ o.n) (h1 : o.n < 18446744073709551616) (ho : isOrd o = true) (hm : msgO o = some m) :
    Calls Tryz.prog 12 #[.pointer (some ⟨bm, 0, none⟩), o.v] w (DoRes2 bm g N (errU (pCap N) l m, false, ⟨#[]⟩, [], 0, 0) (rowsU (pCap N) ls l m) w) := by
  have hia := fun W => is_any o W
  rw [ho] at hia
  have hma := fun W => mdl_message o W h0 h1
  rw [show msgZ o = m by unfold msgZ; rw [hm]; rfl, hm] at hma
  have hup := fun W (hW : Below w.heap.size w W) => update_any bm g N ls l m W (h.below hW) hl hn hln
  generalize errU (pCap N) l m = E at *
  generalize rowsU (pCap N) ls l m = R at *
  have hbl := h.lt
  have hgl := h.glt
  obtain ⟨kind, key, val, n, lo, hi⟩ := o
  obtain ⟨mk, mkey, mval⟩ := m
  rw [Ord.v_def] at hia hma ⊢
  rw [Mg.v_def] at hma hup
  have HI := Lib.hid hia
  have HM := Lib.hid hma
  have HU := Lib.hid hup
  have HMS := Lib.hid ans_size
  have HOS := Lib.hid ord_size
  clear hia hma hup ho h hl h0 h1 hm
  go_enter Tryz.func12, Tryz.ntmps12
  go_wp2_with (first
    | (go_at_call 43; (with_reducible refine (HI.out _).mono ?_); rintro e w1 ⟨rfl, hb1⟩; have hbo : OBox w.heap.size ⟨kind, key, val, n, lo, hi⟩ w1 := box_below (((Fr.refl (fun _ => False) _).alloc _).row id (heap_alloc_new w _)) hb1; have hba : ABox (w.heap.size + 1) w1 := box_below (heap_new_at (by simp)) hb1; have HBO := Lib.hid hbo; have HBA := Lib.hid hba; have HB1 := Lib.hid (below_next (below_alloc (below_alloc (Below.refl _ w))) hb1); clear hb1 hbo hba)
    | (refine wpList_load_mid rfl 39 (Operand.tmp 3) rfl w.heap.size 0 rfl [.int .i64 kind, .string key, .string val, .int .u64 n, .string lo, .string hi] _ (row_range HBO.out) Tryz.underlying39 rfl HOS.out ?_)
    | (go_at_call 44; (with_reducible refine (HM.out _).mono ?_); rintro e w2 ⟨rfl, hb2⟩; have hbo2 : OBox w.heap.size ⟨kind, key, val, n, lo, hi⟩ w2 := box_below HBO.out hb2; have hba2 : ABox (w.heap.size + 1) w2 := box_below HBA.out hb2; have HBO2 := Lib.hid hbo2; have HBA2 := Lib.hid hba2; have HB2 := Lib.hid (below_next HB1.out hb2); clear hb2 hbo2 hba2)
    | (go_at_call 45; (with_reducible refine (HU.out _ (below_alloc HB2.out)).mono ?_); rintro e w3 ⟨rfl, g3, hm3, hg3, hf3⟩; have hba3 : ABox (w.heap.size + 1) w3 := hf3.row (by omega) (((Fr.refl (fun _ => False) _).alloc _).row id HBA2.out); have HBA3 := Lib.hid hba3; have HM3 := Lib.hid hm3; have HG3 := Lib.hid hg3; have HF3 := Lib.hid hf3; clear hm3 hg3 hf3 hba3)
    | (refine wpList_store_row rfl 35 (Operand.tmp 4) (Operand.tmp 25) rfl (w.heap.size + 1) _ (ansC E false ⟨#[]⟩ (.slice none 0 0) 0 0) _ rfl rfl HBA3.out rfl HMS.out (ans_all _ _ _ _ _ _ _ _) ?_; intro w9 hr9 hf9; have HR9 := Lib.hid hr9; have HF9 := Lib.hid hf9; clear hr9 hf9))
  refine bodyPost_ret (v := ansV E false ⟨#[]⟩ (.slice none 0 0) 0 0) (results_cell (a := 4) (t := 35) (ad := ⟨w.heap.size + 1, 0, none⟩) Tryz.results12 rfl (load_row _ HR9.out _ Tryz.underlying35 rfl HMS.out)) rfl ?_
  exact do_done hbl (below_alloc HB2.out) HM3.out HG3.out HF3.out HBA3.out (Nat.le_succ _) HF9.out (OwnsG.nil _ _)
end Go.Proofs.YtdfgdnaejnngoaaGreat
namespace Go.Proofs.YtdfgdnaejnngoaaGreat
open Go.RowKit
set_option maxHeartbeats 1000000 in
set_option maxRecDepth 100000 in
theorem do_get_bad (bm g : Nat) (N : Int) (ls : List (List Itm)) (l : List Itm) (key val : ByteArray) (n : Int) (lo hi : ByteArray) (w : World) (h : ModelAt w bm g N ls) (hl : ls[ls.length - 1]? = some l) (hn : ls.length ≤ 90000) (hln : l.length ≤ 60000) (h0 : 0 ≤ n) (h1 : n < 18446744073709551616) (ho : isOrd ⟨4, key, val, n, lo, hi⟩ = true) (hk : isKey key = false) :
    Calls Tryz.prog 12 #[.pointer (some ⟨bm, 0, none⟩), (Ord.mk 4 key val n lo hi).v] w (DoRes2 bm g N (1, false, ⟨#[]⟩, [], 0, 0) ls w) := by
  have hia := fun W => is_any ⟨4, key, val, n, lo, hi⟩ W
  rw [ho] at hia
  have hma := fun W => mdl_message ⟨4, key, val, n, lo, hi⟩ W h0 h1
  have hmz : msgO ⟨4, key, val, n, lo, hi⟩ = none := rfl
  rw [show msgZ ⟨4, key, val, n, lo, hi⟩ = ⟨0, ⟨#[]⟩, ⟨#[]⟩⟩ by unfold msgZ; rw [hmz]; rfl, hmz] at hma
  have hbl := h.lt
  have HG := Lib.hid (fun W => get_bad bm key W hk)
  clear hk
  rw [Ord.v_def] at hia hma ⊢
  rw [Mg.v_def] at hma
  have HI := Lib.hid hia
  have HM := Lib.hid hma
  have HMO := Lib.hid h
  have HMS := Lib.hid ans_size
  have HOS := Lib.hid ord_size
  clear hia hma ho hmz h hl h0 h1
  go_enter Tryz.func12, Tryz.ntmps12
  go_wp2_with (first
    | (go_at_call 43; (with_reducible refine (HI.out _).mono ?_); rintro e w1 ⟨rfl, hb1⟩; have hbo : OBox w.heap.size ⟨4, key, val, n, lo, hi⟩ w1 := box_below (((Fr.refl (fun _ => False) _).alloc _).row id (heap_alloc_new w _)) hb1; have hba : ABox (w.heap.size + 1) w1 := box_below (heap_new_at (by simp)) hb1; have HBO := Lib.hid hbo; have HBA := Lib.hid hba; have HB1 := Lib.hid (below_next (below_alloc (below_alloc (Below.refl _ w))) hb1); clear hb1 hbo hba)
    | (refine wpList_load_mid rfl 39 (Operand.tmp 3) rfl w.heap.size 0 rfl [.int .i64 4, .string key, .string val, .int .u64 n, .string lo, .string hi] _ (row_range HBO.out) Tryz.underlying39 rfl HOS.out ?_)
    | (go_at_call 44; (with_reducible refine (HM.out _).mono ?_); rintro e w2 ⟨rfl, hb2⟩; have hbo2 : OBox w.heap.size ⟨4, key, val, n, lo, hi⟩ w2 := box_below HBO.out hb2; have hba2 : ABox (w.heap.size + 1) w2 := box_below HBA.out hb2; have HBA2 := Lib.hid hba2; have d0 : w2.cell? ⟨w.heap.size, 0, none⟩ = some (.int .i64 4) := (by rw [Lib.cell_of_heap hbo2]; rfl); have d1 : w2.cell? ⟨w.heap.size, 1, none⟩ = some (.string key) := (by rw [Lib.cell_of_heap hbo2]; rfl); have d4 : w2.cell? ⟨w.heap.size, 4, none⟩ = some (.string lo) := (by rw [Lib.cell_of_heap hbo2]; rfl); have d5 : w2.cell? ⟨w.heap.size, 5, none⟩ = some (.string hi) := (by rw [Lib.cell_of_heap hbo2]; rfl); have hx2 := lt_of_row hbo2; have HB2 := Lib.hid (below_next HB1.out hb2); clear hb2 hbo2 hba2)
    | (go_at_call 46; (with_reducible refine (HG.out _).mono ?_); rintro e w4 ⟨rfl, hb4⟩; have hba4 : ABox (w.heap.size + 1) w4 := box_below (((Fr.refl (fun _ => False) _).alloc _).row id HBA2.out) hb4; have HBA4 := Lib.hid hba4; have HB4 := Lib.hid (below_next (below_alloc HB2.out) hb4); clear hb4 hba4)
    | (refine wpList_store_row rfl 35 (Operand.tmp 4) (Operand.tmp 33) rfl (w.heap.size + 1) _ (ansC 1 false ⟨#[]⟩ (.slice none 0 0) 0 0) _ rfl rfl HBA4.out rfl HMS.out (ans_all _ _ _ _ _ _ _ _) ?_; intro w9 hr9 hf9; have HR9 := Lib.hid hr9; have HF9 := Lib.hid hf9; clear hr9 hf9))
  refine bodyPost_ret (v := ansV 1 false ⟨#[]⟩ (.slice none 0 0) 0 0) (results_cell (a := 4) (t := 35) (ad := ⟨w.heap.size + 1, 0, none⟩) Tryz.results12 rfl (load_row _ HR9.out _ Tryz.underlying35 rfl HMS.out)) rfl (do_keep HMO.out (HB4.out.trans (HF9.out.to_below HB4.out.size (fun i hi e => by omega))))
set_option maxHeartbeats 1000000 in
set_option maxRecDepth 100000 in
theorem do_get_ok (bm g : Nat) (N : Int) (ls : List (List Itm)) (l : List Itm) (key val : ByteArray) (n : Int) (lo hi : ByteArray) (w : World) (h : ModelAt w bm g N ls) (hl : ls[ls.length - 1]? = some l) (hn : ls.length ≤ 90000) (hln : l.length ≤ 60000) (h0 : 0 ≤ n) (h1 : n < 18446744073709551616) (ho : isOrd ⟨4, key, val, n, lo, hi⟩ = true) (hk : isKey key = true) :
    Calls Tryz.prog 12 #[.pointer (some ⟨bm, 0, none⟩), (Ord.mk 4 key val n lo hi).v] w (DoRes2 bm g N (0, (getL l key).isSome, strO (getL l key), [], 0, 0) ls w) := by
  have hia := fun W => is_any ⟨4, key, val, n, lo, hi⟩ W
  rw [ho] at hia
  have hma := fun W => mdl_message ⟨4, key, val, n, lo, hi⟩ W h0 h1
  have hmz : msgO ⟨4, key, val, n, lo, hi⟩ = none := rfl
  rw [show msgZ ⟨4, key, val, n, lo, hi⟩ = ⟨0, ⟨#[]⟩, ⟨#[]⟩⟩ by unfold msgZ; rw [hmz]; rfl, hmz] at hma
  have hbl := h.lt
  have hge := fun W (hW : Below w.heap.size w W) => get_ok bm g N ls l key W (h.below hW) hl hn hln hk
  generalize strO (getL l key) = fs at *
  generalize (getL l key).isSome = fb at *
  have HG := Lib.hid hge
  clear hk hge
  rw [Ord.v_def] at hia hma ⊢
  rw [Mg.v_def] at hma
  have HI := Lib.hid hia
  have HM := Lib.hid hma
  have HMO := Lib.hid h
  have HMS := Lib.hid ans_size
  have HOS := Lib.hid ord_size
  clear hia hma ho hmz h hl h0 h1
  go_enter Tryz.func12, Tryz.ntmps12
  go_wp2_with (first
    | (go_at_call 43; (with_reducible refine (HI.out _).mono ?_); rintro e w1 ⟨rfl, hb1⟩; have hbo : OBox w.heap.size ⟨4, key, val, n, lo, hi⟩ w1 := box_below (((Fr.refl (fun _ => False) _).alloc _).row id (heap_alloc_new w _)) hb1; have hba : ABox (w.heap.size + 1) w1 := box_below (heap_new_at (by simp)) hb1; have HBO := Lib.hid hbo; have HBA := Lib.hid hba; have HB1 := Lib.hid (below_next (below_alloc (below_alloc (Below.refl _ w))) hb1); clear hb1 hbo hba)
    | (refine wpList_load_mid rfl 39 (Operand.tmp 3) rfl w.heap.size 0 rfl [.int .i64 4, .string key, .string val, .int .u64 n, .string lo, .string hi] _ (row_range HBO.out) Tryz.underlying39 rfl HOS.out ?_)
    | (go_at_call 44; (with_reducible refine (HM.out _).mono ?_); rintro e w2 ⟨rfl, hb2⟩; have hbo2 : OBox w.heap.size ⟨4, key, val, n, lo, hi⟩ w2 := box_below HBO.out hb2; have hba2 : ABox (w.heap.size + 1) w2 := box_below HBA.out hb2; have HBA2 := Lib.hid hba2; have d0 : w2.cell? ⟨w.heap.size, 0, none⟩ = some (.int .i64 4) := (by rw [Lib.cell_of_heap hbo2]; rfl); have d1 : w2.cell? ⟨w.heap.size, 1, none⟩ = some (.string key) := (by rw [Lib.cell_of_heap hbo2]; rfl); have d4 : w2.cell? ⟨w.heap.size, 4, none⟩ = some (.string lo) := (by rw [Lib.cell_of_heap hbo2]; rfl); have d5 : w2.cell? ⟨w.heap.size, 5, none⟩ = some (.string hi) := (by rw [Lib.cell_of_heap hbo2]; rfl); have hx2 := lt_of_row hbo2; have HB2 := Lib.hid (below_next HB1.out hb2); clear hb2 hbo2 hba2)
    | (go_at_call 46; (with_reducible refine (HG.out _ (below_alloc HB2.out)).mono ?_); rintro e w4 ⟨rfl, hb4⟩; have hba4 : ABox (w.heap.size + 1) w4 := box_below (((Fr.refl (fun _ => False) _).alloc _).row id HBA2.out) hb4; have HBA4 := Lib.hid hba4; have HB4 := Lib.hid (below_next (below_alloc HB2.out) hb4); clear hb4 hba4)
    | (refine wpList_store_row rfl 35 (Operand.tmp 4) (Operand.tmp 33) rfl (w.heap.size + 1) _ (ansC 0 fb fs (.slice none 0 0) 0 0) _ rfl rfl HBA4.out rfl HMS.out (ans_all _ _ _ _ _ _ _ _) ?_; intro w9 hr9 hf9; have HR9 := Lib.hid hr9; have HF9 := Lib.hid hf9; clear hr9 hf9))
  refine bodyPost_ret (v := ansV 0 fb fs (.slice none 0 0) 0 0) (results_cell (a := 4) (t := 35) (ad := ⟨w.heap.size + 1, 0, none⟩) Tryz.results12 rfl (load_row _ HR9.out _ Tryz.underlying35 rfl HMS.out)) rfl (do_keep HMO.out (HB4.out.trans (HF9.out.to_below HB4.out.size (fun i hi e => by omega))))
set_option maxHeartbeats 1000000 in
set_option maxRecDepth 100000 in
theorem do_scan_bad (bm g : Nat) (N : Int) (ls : List (List Itm)) (l : List Itm) (key val : ByteArray) (n : Int) (lo hi : ByteArray) (w : World) (h : ModelAt w bm g N ls) (hl : ls[ls.length - 1]? = some l) (hn : ls.length ≤ 90000) (hln : l.length ≤ 60000) (h0 : 0 ≤ n) (h1 : n < 18446744073709551616) (ho : isOrd ⟨5, key, val, n, lo, hi⟩ = true) (hk : isRng lo hi = false) :
    Calls Tryz.prog 12 #[.pointer (some ⟨bm, 0, none⟩), (Ord.mk 5 key val n lo hi).v] w (DoRes2 bm g N (1, false, ⟨#[]⟩, [], 0, 0) ls w) := by
  have hia := fun W => is_any ⟨5, key, val, n, lo, hi⟩ W
  rw [ho] at hia
  have hma := fun W => mdl_message ⟨5, key, val, n, lo, hi⟩ W h0 h1
  have hmz : msgO ⟨5, key, val, n, lo, hi⟩ = none := rfl
  rw [show msgZ ⟨5, key, val, n, lo, hi⟩ = ⟨0, ⟨#[]⟩, ⟨#[]⟩⟩ by unfold msgZ; rw [hmz]; rfl, hmz] at hma
  have hbl := h.lt
  have HG := Lib.hid (fun W => scan_bad bm lo hi W hk)
  clear hk
  rw [Ord.v_def] at hia hma ⊢
  rw [Mg.v_def] at hma
  have HI := Lib.hid hia
  have HM := Lib.hid hma
  have HMO := Lib.hid h
  have HMS := Lib.hid ans_size
  have HOS := Lib.hid ord_size
  clear hia hma ho hmz h hl h0 h1
  go_enter Tryz.func12, Tryz.ntmps12
  go_wp2_with (first
    | (go_at_call 43; (with_reducible refine (HI.out _).mono ?_); rintro e w1 ⟨rfl, hb1⟩; have hbo : OBox w.heap.size ⟨5, key, val, n, lo, hi⟩ w1 := box_below (((Fr.refl (fun _ => False) _).alloc _).row id (heap_alloc_new w _)) hb1; have hba : ABox (w.heap.size + 1) w1 := box_below (heap_new_at (by simp)) hb1; have HBO := Lib.hid hbo; have HBA := Lib.hid hba; have HB1 := Lib.hid (below_next (below_alloc (below_alloc (Below.refl _ w))) hb1); clear hb1 hbo hba)
    | (refine wpList_load_mid rfl 39 (Operand.tmp 3) rfl w.heap.size 0 rfl [.int .i64 5, .string key, .string val, .int .u64 n, .string lo, .string hi] _ (row_range HBO.out) Tryz.underlying39 rfl HOS.out ?_)
    | (go_at_call 44; (with_reducible refine (HM.out _).mono ?_); rintro e w2 ⟨rfl, hb2⟩; have hbo2 : OBox w.heap.size ⟨5, key, val, n, lo, hi⟩ w2 := box_below HBO.out hb2; have hba2 : ABox (w.heap.size + 1) w2 := box_below HBA.out hb2; have HBA2 := Lib.hid hba2; have d0 : w2.cell? ⟨w.heap.size, 0, none⟩ = some (.int .i64 5) := (by rw [Lib.cell_of_heap hbo2]; rfl); have d1 : w2.cell? ⟨w.heap.size, 1, none⟩ = some (.string key) := (by rw [Lib.cell_of_heap hbo2]; rfl); have d4 : w2.cell? ⟨w.heap.size, 4, none⟩ = some (.string lo) := (by rw [Lib.cell_of_heap hbo2]; rfl); have d5 : w2.cell? ⟨w.heap.size, 5, none⟩ = some (.string hi) := (by rw [Lib.cell_of_heap hbo2]; rfl); have hx2 := lt_of_row hbo2; have HB2 := Lib.hid (below_next HB1.out hb2); clear hb2 hbo2 hba2)
    | (go_at_call 47; (with_reducible refine (HG.out _).mono ?_); rintro e w4 ⟨rfl, hb4⟩; have hba4 : ABox (w.heap.size + 1) w4 := box_below (((Fr.refl (fun _ => False) _).alloc _).row id HBA2.out) hb4; have HBA4 := Lib.hid hba4; have HB4 := Lib.hid (below_next (below_alloc HB2.out) hb4); clear hb4 hba4)
    | (refine wpList_store_row rfl 35 (Operand.tmp 4) (Operand.tmp 42) rfl (w.heap.size + 1) _ (ansC 1 false ⟨#[]⟩ (.slice none 0 0) 0 0) _ rfl rfl HBA4.out rfl HMS.out (ans_all _ _ _ _ _ _ _ _) ?_; intro w9 hr9 hf9; have HR9 := Lib.hid hr9; have HF9 := Lib.hid hf9; clear hr9 hf9))
  refine bodyPost_ret (v := ansV 1 false ⟨#[]⟩ (.slice none 0 0) 0 0) (results_cell (a := 4) (t := 35) (ad := ⟨w.heap.size + 1, 0, none⟩) Tryz.results12 rfl (load_row _ HR9.out _ Tryz.underlying35 rfl HMS.out)) rfl (do_keep HMO.out (HB4.out.trans (HF9.out.to_below HB4.out.size (fun i hi e => by omega))))
set_option maxHeartbeats 1000000 in
set_option maxRecDepth 100000 in
theorem do_scan_ok (bm g : Nat) (N : Int) (ls : List (List Itm)) (l : List Itm) (key val : ByteArray) (n : Int) (lo hi : ByteArray) (w : World) (h : ModelAt w bm g N ls) (hl : ls[ls.length - 1]? = some l) (hn : ls.length ≤ 90000) (hln : l.length ≤ 60000) (h0 : 0 ≤ n) (h1 : n < 18446744073709551616) (ho : isOrd ⟨5, key, val, n, lo, hi⟩ = true) (hk : isRng lo hi = true) :
    Calls Tryz.prog 12 #[.pointer (some ⟨bm, 0, none⟩), (Ord.mk 5 key val n lo hi).v] w (DoRes2 bm g N (0, false, ⟨#[]⟩, withinL lo hi l, 0, 0) ls w) := by
  have hia := fun W => is_any ⟨5, key, val, n, lo, hi⟩ W
  rw [ho] at hia
  have hma := fun W => mdl_message ⟨5, key, val, n, lo, hi⟩ W h0 h1
  have hmz : msgO ⟨5, key, val, n, lo, hi⟩ = none := rfl
  rw [show msgZ ⟨5, key, val, n, lo, hi⟩ = ⟨0, ⟨#[]⟩, ⟨#[]⟩⟩ by unfold msgZ; rw [hmz]; rfl, hmz] at hma
  have hbl := h.lt
  have hge := fun W (hW : Below w.heap.size w W) => scan_ok bm g N ls l lo hi W (h.below hW) hl hn hln hk
  generalize withinL lo hi l = D at *
  have HG := Lib.hid hge
  clear hk hge
  rw [Ord.v_def] at hia hma ⊢
  rw [Mg.v_def] at hma
  have HI := Lib.hid hia
  have HM := Lib.hid hma
  have HMO := Lib.hid h
  have HMS := Lib.hid ans_size
  have HOS := Lib.hid ord_size
  clear hia hma ho hmz h hl h0 h1
  go_enter Tryz.func12, Tryz.ntmps12
  go_wp2_with (first
    | (go_at_call 43; (with_reducible refine (HI.out _).mono ?_); rintro e w1 ⟨rfl, hb1⟩; have hbo : OBox w.heap.size ⟨5, key, val, n, lo, hi⟩ w1 := box_below (((Fr.refl (fun _ => False) _).alloc _).row id (heap_alloc_new w _)) hb1; have hba : ABox (w.heap.size + 1) w1 := box_below (heap_new_at (by simp)) hb1; have HBO := Lib.hid hbo; have HBA := Lib.hid hba; have HB1 := Lib.hid (below_next (below_alloc (below_alloc (Below.refl _ w))) hb1); clear hb1 hbo hba)
    | (refine wpList_load_mid rfl 39 (Operand.tmp 3) rfl w.heap.size 0 rfl [.int .i64 5, .string key, .string val, .int .u64 n, .string lo, .string hi] _ (row_range HBO.out) Tryz.underlying39 rfl HOS.out ?_)
    | (go_at_call 44; (with_reducible refine (HM.out _).mono ?_); rintro e w2 ⟨rfl, hb2⟩; have hbo2 : OBox w.heap.size ⟨5, key, val, n, lo, hi⟩ w2 := box_below HBO.out hb2; have hba2 : ABox (w.heap.size + 1) w2 := box_below HBA.out hb2; have HBA2 := Lib.hid hba2; have d0 : w2.cell? ⟨w.heap.size, 0, none⟩ = some (.int .i64 5) := (by rw [Lib.cell_of_heap hbo2]; rfl); have d1 : w2.cell? ⟨w.heap.size, 1, none⟩ = some (.string key) := (by rw [Lib.cell_of_heap hbo2]; rfl); have d4 : w2.cell? ⟨w.heap.size, 4, none⟩ = some (.string lo) := (by rw [Lib.cell_of_heap hbo2]; rfl); have d5 : w2.cell? ⟨w.heap.size, 5, none⟩ = some (.string hi) := (by rw [Lib.cell_of_heap hbo2]; rfl); have hx2 := lt_of_row hbo2; have HB2 := Lib.hid (below_next HB1.out hb2); clear hb2 hbo2 hba2)
    | (go_at_call 47; (with_reducible refine (HG.out _ (below_alloc HB2.out)).mono ?_); rintro e w4 ⟨A4, k4, c4, rfl, ho4, hb4⟩; have hba4 : ABox (w.heap.size + 1) w4 := box_below (((Fr.refl (fun _ => False) _).alloc _).row id HBA2.out) hb4; have HBA4 := Lib.hid hba4; have HO4 := Lib.hid ho4; have HB4 := Lib.hid (below_next (below_alloc HB2.out) hb4); clear hb4 hba4 ho4)
    | (refine wpList_store_row rfl 35 (Operand.tmp 4) (Operand.tmp 42) rfl (w.heap.size + 1) _ (ansC 0 false ⟨#[]⟩ (.slice A4 k4 c4) 0 0) _ rfl rfl HBA4.out rfl HMS.out (ans_all _ _ _ _ _ _ _ _) ?_; intro w9 hr9 hf9; have HR9 := Lib.hid hr9; have HF9 := Lib.hid hf9; clear hr9 hf9))
  have hs2 := lt_of_row HBA2.out
  refine bodyPost_ret (v := ansV 0 false ⟨#[]⟩ (.slice A4 k4 c4) 0 0) (results_cell (a := 4) (t := 35) (ad := ⟨w.heap.size + 1, 0, none⟩) Tryz.results12 rfl (load_row _ HR9.out _ Tryz.underlying35 rfl HMS.out)) rfl (do_done hbl HB4.out (HMO.out.below HB4.out) (.inl rfl) (Fr.refl _ _) HBA4.out (Nat.le_succ _) HF9.out ((HO4.out.fr HF9.out (fun k hk e => by simp at hk; omega)).base (by have := HB2.out.size; simp; omega)))
set_option maxHeartbeats 1000000 in
set_option maxRecDepth 100000 in
theorem do_stat (bm g : Nat) (N : Int) (ls : List (List Itm)) (l : List Itm) (key val : ByteArray) (n : Int) (lo hi : ByteArray) (w : World) (h : ModelAt w bm g N ls) (hl : ls[ls.length - 1]? = some l) (hn : ls.length ≤ 90000) (hln : l.length ≤ 60000) (h0 : 0 ≤ n) (h1 : n < 18446744073709551616) (ho : isOrd ⟨8, key, val, n, lo, hi⟩ = true) :
    Calls Tryz.prog 12 #[.pointer (some ⟨bm, 0, none⟩), (Ord.mk 8 key val n lo hi).v] w (DoRes2 bm g N (0, false, ⟨#[]⟩, [], l.length, sumW l) ls w) := by
  have hia := fun W => is_any ⟨8, key, val, n, lo, hi⟩ W
  rw [ho] at hia
  have hma := fun W => mdl_message ⟨8, key, val, n, lo, hi⟩ W h0 h1
  have hmz : msgO ⟨8, key, val, n, lo, hi⟩ = none := rfl
  rw [show msgZ ⟨8, key, val, n, lo, hi⟩ = ⟨0, ⟨#[]⟩, ⟨#[]⟩⟩ by unfold msgZ; rw [hmz]; rfl, hmz] at hma
  have hbl := h.lt
  have hnow : ∀ W, Below w.heap.size w W → Calls Tryz.prog 48 #[.pointer (some ⟨bm, 0, none⟩)] W (NowRes l W) := fun W hW => now_any bm g N ls l W (h.below hW) hl (by omega)
  have HN := Lib.hid hnow
  have HLN := Lib.hid (fun b c A W h => leafLen_any b c A l W h)
  have HWT := Lib.hid (fun b c A W h => leafWeight_any b c A l W h)
  clear hnow
  rw [Ord.v_def] at hia hma ⊢
  rw [Mg.v_def] at hma
  have HI := Lib.hid hia
  have HM := Lib.hid hma
  have HMO := Lib.hid h
  have HMS := Lib.hid ans_size
  have HOS := Lib.hid ord_size
  clear hia hma ho hmz h hl h0 h1
  go_enter Tryz.func12, Tryz.ntmps12
  go_wp2_with (first
    | (go_at_call 43; (with_reducible refine (HI.out _).mono ?_); rintro e w1 ⟨rfl, hb1⟩; have hbo : OBox w.heap.size ⟨8, key, val, n, lo, hi⟩ w1 := box_below (((Fr.refl (fun _ => False) _).alloc _).row id (heap_alloc_new w _)) hb1; have hba : ABox (w.heap.size + 1) w1 := box_below (heap_new_at (by simp)) hb1; have HBO := Lib.hid hbo; have HBA := Lib.hid hba; have HB1 := Lib.hid (below_next (below_alloc (below_alloc (Below.refl _ w))) hb1); clear hb1 hbo hba)
    | (refine wpList_load_mid rfl 39 (Operand.tmp 3) rfl w.heap.size 0 rfl [.int .i64 8, .string key, .string val, .int .u64 n, .string lo, .string hi] _ (row_range HBO.out) Tryz.underlying39 rfl HOS.out ?_)
    | (go_at_call 44; (with_reducible refine (HM.out _).mono ?_); rintro e w2 ⟨rfl, hb2⟩; have hbo2 : OBox w.heap.size ⟨8, key, val, n, lo, hi⟩ w2 := box_below HBO.out hb2; have hba2 : ABox (w.heap.size + 1) w2 := box_below HBA.out hb2; have HBA2 := Lib.hid hba2; have d0 : w2.cell? ⟨w.heap.size, 0, none⟩ = some (.int .i64 8) := (by rw [Lib.cell_of_heap hbo2]; rfl); have d1 : w2.cell? ⟨w.heap.size, 1, none⟩ = some (.string key) := (by rw [Lib.cell_of_heap hbo2]; rfl); have d4 : w2.cell? ⟨w.heap.size, 4, none⟩ = some (.string lo) := (by rw [Lib.cell_of_heap hbo2]; rfl); have d5 : w2.cell? ⟨w.heap.size, 5, none⟩ = some (.string hi) := (by rw [Lib.cell_of_heap hbo2]; rfl); have hx2 := lt_of_row hbo2; have HB2 := Lib.hid (below_next HB1.out hb2); clear hb2 hbo2 hba2)
    | (go_at_call 49; (with_reducible refine (HLN.out _ _ _ _ HLA3.out).mono ?_); rintro e w4 ⟨rfl, hb4⟩; have HB4 := Lib.hid (below_next HB3.out hb4); clear hb4)
    | (go_at_call 50; (with_reducible refine (HWT.out _ _ _ _ HLA5.out).mono ?_); rintro e w6 ⟨rfl, hb6⟩; have hb36 := below_next HB5.out hb6; have hba6 : ABox (w.heap.size + 1) w6 := box_below (((Fr.refl (fun _ => False) _).alloc _).row id HBA2.out) hb36; have HBA6 := Lib.hid hba6; have HB6 := Lib.hid (below_next (below_alloc HB2.out) hb36); clear hb6 hb36 hba6)
    | (go_at_call 48; (with_reducible refine (HN.out _ (below_next (below_alloc HB2.out) HB4.out)).mono ?_); rintro e w5 ⟨p5, A5, c5, rfl, hla5, hb5⟩; have HLA5 := Lib.hid hla5; have HB5 := Lib.hid (below_next HB4.out hb5); clear hb5 hla5)
    | (go_at_call 48; (with_reducible refine (HN.out _ (below_alloc HB2.out)).mono ?_); rintro e w3 ⟨p3, A3, c3, rfl, hla3, hb3⟩; have HLA3 := Lib.hid hla3; have HB3 := Lib.hid hb3; clear hb3 hla3)
    | (refine wpList_store_row rfl 35 (Operand.tmp 4) (Operand.tmp 52) rfl (w.heap.size + 1) _ (ansC 0 false ⟨#[]⟩ (.slice none 0 0) l.length (sumW l)) _ rfl rfl HBA6.out rfl HMS.out (ans_all _ _ _ _ _ _ _ _) ?_; intro w9 hr9 hf9; have HR9 := Lib.hid hr9; have HF9 := Lib.hid hf9; clear hr9 hf9))
  refine bodyPost_ret (v := ansV 0 false ⟨#[]⟩ (.slice none 0 0) l.length (sumW l)) (results_cell (a := 4) (t := 35) (ad := ⟨w.heap.size + 1, 0, none⟩) Tryz.results12 rfl (load_row _ HR9.out _ Tryz.underlying35 rfl HMS.out)) rfl (do_keep HMO.out (HB6.out.trans (HF9.out.to_below HB6.out.size (fun i hi e => by omega))))
set_option maxHeartbeats 1000000 in
set_option maxRecDepth 100000 in
theorem do_safe (bm g : Nat) (N : Int) (ls : List (List Itm)) (l : List Itm) (kind : Int) (key val : ByteArray) (n : Int) (lo hi : ByteArray) (w : World) (h : ModelAt w bm g N ls) (hl : ls[ls.length - 1]? = some l) (hn : ls.length ≤ 90000) (hln : l.length ≤ 60000) (h0 : 0 ≤ n) (h1 : n < 18446744073709551616) (ho : isOrd ⟨kind, key, val, n, lo, hi⟩ = true) (n1 : ¬ kind = 1) (n2 : ¬ kind = 2) (n3 : ¬ kind = 3) (n4 : ¬ kind = 4) (n5 : ¬ kind = 5) (n8 : ¬ kind = 8) :
    Calls Tryz.prog 12 #[.pointer (some ⟨bm, 0, none⟩), (Ord.mk kind key val n lo hi).v] w (DoRes2 bm g N (0, false, ⟨#[]⟩, [], 0, 0) [l] w) := by
  have hia := fun W => is_any ⟨kind, key, val, n, lo, hi⟩ W
  rw [ho] at hia
  have hma := fun W => mdl_message ⟨kind, key, val, n, lo, hi⟩ W h0 h1
  have hmz : msgO ⟨kind, key, val, n, lo, hi⟩ = none := by unfold msgO; simp [n1, n2, n3]
  rw [show msgZ ⟨kind, key, val, n, lo, hi⟩ = ⟨0, ⟨#[]⟩, ⟨#[]⟩⟩ by unfold msgZ; rw [hmz]; rfl, hmz] at hma
  have hbl := h.lt
  have hsa := fun W (hW : Below w.heap.size w W) => safe_any bm g N ls l W (h.below hW) hl hn
  have HG := Lib.hid hsa
  clear hsa
  rw [Ord.v_def] at hia hma ⊢
  rw [Mg.v_def] at hma
  have HI := Lib.hid hia
  have HM := Lib.hid hma
  have HMO := Lib.hid h
  have HMS := Lib.hid ans_size
  have HOS := Lib.hid ord_size
  clear hia hma ho hmz h hl h0 h1
  have e4 : (kind == 4) = false := by simp [n4]
  have e5 : (kind == 5) = false := by simp [n5]
  have e8 : (kind == 8) = false := by simp [n8]
  go_enter Tryz.func12, Tryz.ntmps12
  go_wp2_with (first
    | (go_at_call 43; (with_reducible refine (HI.out _).mono ?_); rintro e w1 ⟨rfl, hb1⟩; have hbo : OBox w.heap.size ⟨kind, key, val, n, lo, hi⟩ w1 := box_below (((Fr.refl (fun _ => False) _).alloc _).row id (heap_alloc_new w _)) hb1; have hba : ABox (w.heap.size + 1) w1 := box_below (heap_new_at (by simp)) hb1; have HBO := Lib.hid hbo; have HBA := Lib.hid hba; have HB1 := Lib.hid (below_next (below_alloc (below_alloc (Below.refl _ w))) hb1); clear hb1 hbo hba)
    | (refine wpList_load_mid rfl 39 (Operand.tmp 3) rfl w.heap.size 0 rfl [.int .i64 kind, .string key, .string val, .int .u64 n, .string lo, .string hi] _ (row_range HBO.out) Tryz.underlying39 rfl HOS.out ?_)
    | (go_at_call 44; (with_reducible refine (HM.out _).mono ?_); rintro e w2 ⟨rfl, hb2⟩; have hbo2 : OBox w.heap.size ⟨kind, key, val, n, lo, hi⟩ w2 := box_below HBO.out hb2; have hba2 : ABox (w.heap.size + 1) w2 := box_below HBA.out hb2; have HBA2 := Lib.hid hba2; have d0 : w2.cell? ⟨w.heap.size, 0, none⟩ = some (.int .i64 kind) := (by rw [Lib.cell_of_heap hbo2]; rfl); have d1 : w2.cell? ⟨w.heap.size, 1, none⟩ = some (.string key) := (by rw [Lib.cell_of_heap hbo2]; rfl); have d4 : w2.cell? ⟨w.heap.size, 4, none⟩ = some (.string lo) := (by rw [Lib.cell_of_heap hbo2]; rfl); have d5 : w2.cell? ⟨w.heap.size, 5, none⟩ = some (.string hi) := (by rw [Lib.cell_of_heap hbo2]; rfl); have hx2 := lt_of_row hbo2; have HB2 := Lib.hid (below_next HB1.out hb2); clear hb2 hbo2 hba2)
    | (go_at_call 51; (with_reducible refine (HG.out _ (below_alloc HB2.out)).mono ?_); rintro e w4 ⟨rfl, hm4, hf4⟩; have hba4 : ABox (w.heap.size + 1) w4 := hf4.row (by omega) (((Fr.refl (fun _ => False) _).alloc _).row id HBA2.out); have HBA4 := Lib.hid hba4; have HM4 := Lib.hid hm4; have HF4 := Lib.hid hf4; clear hm4 hf4 hba4)
    | (refine wpList_store_row rfl 35 (Operand.tmp 4) (Operand.tmp 55) rfl (w.heap.size + 1) _ (ansC 0 false ⟨#[]⟩ (.slice none 0 0) 0 0) _ rfl rfl HBA4.out rfl HMS.out (ans_all _ _ _ _ _ _ _ _) ?_; intro w9 hr9 hf9; have HR9 := Lib.hid hr9; have HF9 := Lib.hid hf9; clear hr9 hf9))
  refine bodyPost_ret (v := ansV 0 false ⟨#[]⟩ (.slice none 0 0) 0 0) (results_cell (a := 4) (t := 35) (ad := ⟨w.heap.size + 1, 0, none⟩) Tryz.results12 rfl (load_row _ HR9.out _ Tryz.underlying35 rfl HMS.out)) rfl (do_done hbl (below_alloc HB2.out) HM4.out (.inl rfl) (HF4.out.mono (fun k _ e => .inl e)) HBA4.out (Nat.le_succ _) HF9.out (OwnsG.nil _ _))
end Go.Proofs.YtdfgdnaejnngoaaGreat
namespace Go.Proofs.YtdfgdnaejnngoaaGreat
open Go.RowKit
attribute [local go_sem] Oper.semAt_some
/-! slices.Values, AppendSeq, Collect over items. -/
def VI (n₀ : Nat) (W : World) (A : Option Addr) (zs : List Itm) : Prop :=
  ∀ (i : Nat) (x : Itm), zs[i]? = some x → ∃ b off, A = some ⟨b, off, none⟩ ∧ b < n₀ ∧ W.cell? ⟨b, off + i * 2, none⟩ = some (.string x.key) ∧ W.cell? ⟨b, off + i * 2 + 1, none⟩ = some (.string x.val)
theorem VI.below {n₀ : Nat} {a b : World} {A : Option Addr} {zs : List Itm} (h : VI n₀ a A zs) (hb : Below n₀ a b) : VI n₀ b A zs := by
  intro i x hx
  obtain ⟨g, off, e, hg, h0, h1⟩ := h i x hx
  exact ⟨g, off, e, hg, (hb.cell (p := ⟨g, _, none⟩) hg).trans h0, (hb.cell (p := ⟨g, _, none⟩) hg).trans h1⟩
theorem VI.of {w : World} {A : Option Addr} {zs : List Itm} (h : Elems w A 2 (zs.map Itm.cells)) : VI w.heap.size w A zs := by
  intro i x hx
  obtain ⟨b, off, e, hlt, hc⟩ := h i x.cells (by simp [hx])
  exact ⟨b, off, e, hlt, hc 0 _ rfl, hc 1 _ rfl⟩
theorem abides_alloc {β : Type} {B : Nat} {J : β → World → Prop} (h : AbidesFrom B J) {s : β} {W : World} (o : Obj) (hs : J s W) : J s (W.alloc o) := h s W _ none hs (World.grownBy_alloc W o none) (fun r e => by cases e)
theorem take_snoc' {α : Type} {l : List α} {k : Nat} {x : α} (h : l[k]? = some x) : l.take (k + 1) = l.take k ++ [x] := by rw [List.take_add_one, h]; rfl
set_option maxHeartbeats 2000000 in
set_option maxRecDepth 100000 in
theorem vals1 (n : Nat) (hn : 1 ≤ n) (l Bs n₀ cap : Nat) (A : Option Addr) (zs : List Itm) (hl : zs.length ≤ 100000) (J Jx : List Itm → World → Prop) (W : World) (hn₀ : n₀ ≤ W.heap.size) (hJ : AbidesFrom W.heap.size J)
    (hY : ∀ pre x W1, J pre W1 → pre.length < zs.length → YieldAt Fence.wide (n - 1) Tryz.prog l #[Itm.v x] W1 fun e W' => (e = .returned (.bool true) ∧ J (pre ++ [x]) W' ∧ Below n₀ W1 W') ∨ (e = .returned (.bool false) ∧ Jx (pre ++ [x]) W'))
    (hBs : W.cell? ⟨Bs, 0, none⟩ = some (.slice A zs.length cap)) (hc : VI n₀ W A zs) (h0 : J [] W) :
    CallsIn Fence.wide n Tryz.prog 115 #[.func (.yield l) #[] #[], .pointer (some ⟨Bs, 0, none⟩)] W fun e W' => (∃ v, e = .returned v) ∧ ((∃ ys, ys = zs ∧ J ys W') ∨ (∃ pre, pre <+: zs ∧ Jx pre W')) := by
  have HY := Lib.hid hY
  have HC := Lib.hid hc
  have HJ := Lib.hid hJ
  have H0 := Lib.hid h0
  clear hY hc hJ h0
  refine callsIn_of_wp Tryz.func115 rfl trivial ?_ rfl
  simp only [Tryz.ntmps115, List.size_toArray, List.length_cons, List.length_nil, Nat.reduceAdd, Nat.reduceSub, Array.replicate_succ, Array.replicate_zero, List.push_toArray, List.append_toArray, List.nil_append, List.cons_append]
  gi_wp2
  gi_loopw [7, 4] (fun i _ wr => ∃ k : Nat, k ≤ zs.length ∧ i = .int .i64 k ∧ J (zs.take k) wr ∧ Below n₀ W wr) (fun i _ _ => zs.length - (intOf i).toNat)
  case atStart => exact ⟨0, Nat.zero_le _, rfl, H0.out, Below.refl _ _⟩
  case round =>
    obtain ⟨k, hk, rfl, hJs, hnx⟩ := hrel
    by_cases hlt : k < zs.length
    · have hltI : (k : Int) < (zs.length : Int) := by omega
      obtain ⟨x, hx⟩ := get_lt hlt
      obtain ⟨b, off, rfl, hb, d0, d1⟩ := (HC.out.below hnx) k x hx
      have hts := take_snoc' hx
      have hJa := abides_alloc HJ.out (.cells #[.string x.key, .string x.val] 41) hJs
      obtain ⟨fn, tmps, assign, body, hy, hR⟩ := HY.out _ x _ hJa (by rw [List.length_take]; omega)
      have hna : Below n₀ W (wr.alloc (.cells #[.string x.key, .string x.val] 41)) := hnx.alloc (Nat.le_trans hn₀ hnx.size) _
      have HTS := Lib.hid hts
      have HNA := Lib.hid hna
      clear hts hna hJa hJs hx
      rw [Itm.v_def] at hy
      gi_wp2
      refine hR.mono ?_
      rintro e W3 (⟨rfl, hJ3, hk3⟩ | ⟨rfl, hJx3⟩)
      · have HJ3 := Lib.hid hJ3
        have HK3 := Lib.hid (HNA.out.trans hk3)
        clear hJ3 hk3
        gi_wp2
        go_roundw
        case rel => exact ⟨k + 1, by omega, by simp, by rw [HTS.out]; exact HJ3.out, HK3.out⟩
        case measure => simp [intOf]; omega
      · gi_wp2
        refine bodyPost_ret (results_none rfl _ _ _) rfl ?_
        exact ⟨⟨_, rfl⟩, .inr ⟨_, by rw [← HTS.out]; exact List.take_prefix _ _, hJx3⟩⟩
    · obtain rfl : k = zs.length := by omega
      rw [List.take_length] at hJs
      gi_wp2
      go_end0
      exact ⟨⟨_, rfl⟩, .inl ⟨_, rfl, hJs⟩⟩
theorem vals_any (A : Option Addr) (n cap : Nat) (w : World) : Calls Tryz.prog 85 #[.slice A n cap] w fun e w' => e = .returned (.func (.func 115) #[] #[.pointer (some ⟨w.heap.size, 0, none⟩)]) ∧ w.alloc (.cells #[.slice A n cap] 29) = w' := by
  go_enter Tryz.func85, Tryz.ntmps85
  go_wp2
  go_ret
  exact ⟨rfl, rfl⟩
theorem ownM_ne_box {W : World} {B b : Nat} {v : Value} {l : List Itm} {cs : Array Value} {T : TypeId} {fz : Nat × Nat} (h : OwnsM W B v l) (hb : W.heap[b]? = some (.cells cs T fz)) (hT : T ≠ 41) : some b ≠ v.ownBlock := by
  intro e
  rcases h.2 with ⟨he, _⟩ | ⟨g, cap, cur, he, _, hgg, _⟩
  · subst he; cases e
  · subst he
    simp only [Value.ownBlock, Option.some.injEq] at e
    subst e
    rw [hb] at hgg
    simp only [Option.some.injEq, Obj.cells.injEq] at hgg
    exact hT hgg.2.1
set_option maxHeartbeats 2000000 in
set_option maxRecDepth 100000 in
theorem appendSeq_in (A : Option Addr) (cap Bs : Nat) (zs : List Itm) (w : World) (hl : zs.length ≤ 90000) (hBs : w.cell? ⟨Bs, 0, none⟩ = some (.slice A zs.length cap)) (hv : VI w.heap.size w A zs) :
    CallsIn Fence.wide 3 Tryz.prog 130 #[.slice none 0 0, .func (.func 115) #[] #[.pointer (some ⟨Bs, 0, none⟩)]] w fun e w' => ∃ v, e = .returned v ∧ OwnsM w' w.heap.size v zs ∧ Below w.heap.size w w' := by
  obtain ⟨i0, hi, hz0, hz1, hz2⟩ := info_parts M_info
  refine callsIn_of_wp_marks Tryz.func130 rfl trivial ?_ rfl
  simp only [Tryz.ntmps130, List.size_toArray, List.length_cons, List.length_nil, Nat.reduceAdd, Nat.reduceSub, Array.replicate_succ, Array.replicate_zero, List.push_toArray, List.append_toArray, List.nil_append, List.cons_append]
  gi_wp2
  have hBlt : Bs < w.heap.size := World.block_lt_of_cell? _ _ hBs
  have bS := Boxed.new w 29 (.slice none 0 0)
  have hB0 : Below w.heap.size w (w.alloc (.cells #[.slice none 0 0] 29)) := (Below.refl _ w).alloc (Nat.le_refl _) _
  have hBs0 : (w.alloc (.cells #[.slice none 0 0] 29)).cell? ⟨Bs, 0, none⟩ = some (.slice A zs.length cap) := keep_cell_alloc hBlt hBs
  have hv0 := hv.below hB0
  have hs0 : (w.alloc (.cells #[.slice none 0 0] 29)).heap.size = w.heap.size + 1 := by simp
  generalize w.alloc (.cells #[.slice none 0 0] 29) = W0 at *
  have hseq : SeqStopsK Fence.wide (3 - 1) Tryz.prog 115 #[.pointer (some ⟨Bs, 0, none⟩)] (fun x : Itm => #[Itm.v x]) (Below w.heap.size) (fun ys => ys = zs) (fun pre => pre <+: zs) zs.length W0 := fun l J Jx W hW hJ _ hY h0 =>
    vals1 2 (by omega) l Bs w.heap.size cap A zs (by omega) J Jx W (Nat.le_trans hB0.size hW.size) hJ hY ((hW.cell (p := ⟨Bs, 0, none⟩) (by show Bs < _; omega)).trans hBs0) (hv0.below (hW.mono hB0.size)) h0
  refine wpIn_rangeFunc_ownH rfl (by omega) (gf := 115) (lb := #[.pointer (some ⟨Bs, 0, none⟩)]) rfl trivial (enters_of Tryz.func115 (by kernel_rfl) rfl) hseq belowK_t (belowK_b hB0.size) (Below.refl _ _) (fun _ => rfl)
    (fun pre W => (∃ v, Boxed W w.heap.size 29 v ∧ W.ownsRow w.heap.size 41 2 v pre.length (fl pre) ∧ True) ∧ Below w.heap.size w W)
    (fun _ _ _ => False)
    (OwnFrom.and (Own.from (holdsRow_own w.heap.size w.heap.size 29 41 2 (fun pre : List Itm => pre.length) (fun pre => fl pre) (fun _ _ => True)) _) (ownFrom_below (Nat.le_refl _) (by omega)))
    (fun _ _ _ _ _ hs _ _ => hs)
    ⟨⟨_, bS, World.ownsRow_nil _ _ _ _, trivial⟩, hB0⟩
    (fun x a' W => ∃ Bx, w.heap.size < Bx ∧ W.heap[Bx]? = some (.cells #[.string x.key, .string x.val] 41 (0, 0)) ∧ a' = { tmps := #[.slice none 0 0, .func (.func 115) #[] #[.pointer (some ⟨Bs, 0, none⟩)], .pointer (some ⟨w.heap.size, 0, none⟩), undef, .slice none 0 0, .pointer (some ⟨Bx, 0, none⟩), .func (.func 115) #[] #[.pointer (some ⟨Bs, 0, none⟩)], Itm.v x, undef, undef, undef, undef, undef], defers := [] })
    (fun x a' _ X Y row hs hg hr => by obtain ⟨Bx, h1, h2, h3⟩ := hs; exact ⟨Bx, h1, (hg.block Bx (lt_of_row h2) (fun e => by obtain ⟨_, o, ho, hno⟩ := hr Bx e.symm; rw [h2] at ho; cases ho; cases hno)).trans h2, h3⟩)
    ?assign ?body ?done ?stop
  case assign =>
    rintro l pre x W K ⟨⟨v, hv1, hr1, _⟩, hB1⟩ hK
    have hk := hK _ _ ((KeepsOthers.alloc W (.cells #[.string x.key, .string x.val] 41)).from _) ((Below.refl _ W).alloc hB1.size _) ⟨⟨v, hv1.alloc _, OwnsG.alloc (f := Itm.cells) (k := 2) (e := 41) (l := pre) hr1 _, trivial⟩, hB1.alloc hB1.size _⟩ ⟨W.heap.size, hv1.lt, heap_alloc_new W _, rfl⟩
    have HK := Lib.hid hk
    clear hk hK
    rw [Itm.v_def] at *
    gi_wp2
    exact HK.out
  case body =>
    rintro l pre x a' W hl2 ⟨r, hr⟩ ⟨⟨v, hv1, hr1, _⟩, hB1⟩ ⟨Bx, hBx, hx, rfl⟩ hlt
    have hcv := hv1.cell
    have hx0 : W.cell? ⟨Bx, 0, none⟩ = some (.string x.key) := by rw [Lib.cell_of_heap hx]; rfl
    have hx1 : W.cell? ⟨Bx, 1, none⟩ = some (.string x.val) := by rw [Lib.cell_of_heap hx]; rfl
    have hrow : OwnsM W w.heap.size v pre := hr1
    have hpx : OwnsM W w.heap.size v pre → (fl (pre ++ [x])) = fl pre ++ x.cells := fun _ => by rw [fl_append]; simp [fl]
    obtain ⟨A1, c1, rfl⟩ := hrow.slice
    gi_wp2_with (gi_at_builtin; refine wpListIn_append_own _ rfl _ _ 29 rfl w.heap.size 41 i0 _ 2 32 Tryz.underlying29 hi hz0 hz1 hz2 rfl (by decide) _ _ _ rfl (OwnsG.alloc (f := Itm.cells) (k := 2) (e := 41) (l := pre) hrow _) ⟨W.heap.size, 0, none⟩ 1 1 x.cells rfl rfl (ItmAt.cells (T := 41) (heap_alloc_new W _)) (itm_one x) (by unfold maxLen; omega) (by omega) (by have := hB1.size; simp; omega) ?_; intro v' w1 hown' hgrow _; obtain ⟨g', cap', rfl⟩ := ownsRow_succ hown'; obtain ⟨hv1', hv2, hr2, hk2, hb2⟩ := hv1.appended (by decide) hr1 hB1.size (Nat.le_refl _) hown' hgrow; have hc1 := hv1'.cell; have hf1 := hv1'.frozen)
    exact ⟨hk2.from _, hb2, ⟨_, hv2, by rw [List.length_append, hpx hrow]; exact hr2, trivial⟩, hB1.trans hb2⟩
  case done =>
    rintro D ys W hD rfl ⟨⟨v, hv1, hr1, _⟩, hB1⟩ hK
    have hc := hv1.cell
    gi_wp2
    refine ⟨by simp, .inl ⟨_, _, rfl, run_takeDeferred hK, ?_⟩⟩
    exact ⟨_, results_tmp rfl _ _ _, v, rfl, ownsRow_putObj hr1 _ hK rfl, hB1.trans (belowK_b (w := w) (Nat.le_refl _) W D _ _ (by omega) hK rfl rfl)⟩
  case stop =>
    rintro D c pre W _ _ h _
    exact h.elim
end Go.Proofs.YtdfgdnaejnngoaaGreat
namespace Go.Proofs
open Go.Shelf
def Tryz.sortIt_ren : Go.Shelf.Ren := ⟨fun | 6 => 114 | 15 => 132 | 14 => 131 | 28 => 154 | 29 => 155 | 20 => 146 | 21 => 147 | 22 => 148 | 23 => 149 | 24 => 150 | 25 => 151 | 26 => 152 | 27 => 153 | 46 => 159 | 47 => 160 | 48 => 161 | 49 => 162 | 50 => 163 | 57 => 166 | n => n, fun | 22 => 29 | 24 => 41 | 25 => 146 | 3 => 3 | 39 => 42 | 0 => 0 | 53 => 205 | 55 => 37 | 4 => 4 | 46 => 199 | 45 => 198 | 50 => 109 | 5 => 5 | 9 => 9 | 66 => 209 | 70 => 213 | 76 => 218 | 77 => 219 | n => n, fun | n => n⟩
theorem Tryz.sortIt : Go.Proofs.SlLaysF0.n6 Tryz.prog Tryz.sortIt_ren := {
  mixed := by kernel_rfl
  f6 := ⟨Tryz.f114.name, by decide, Tryz.func114.trans (congrArg some (by kernel_rfl))⟩
  f14 := ⟨Tryz.f131.name, by decide, Tryz.func131.trans (congrArg some (by kernel_rfl))⟩
  f15 := Tryz.func132.trans (congrArg some (by kernel_rfl))
  f20 := ⟨Tryz.f146.name, by decide, Tryz.func146.trans (congrArg some (by kernel_rfl))⟩
  f21 := ⟨Tryz.f147.name, by decide, Tryz.func147.trans (congrArg some (by kernel_rfl))⟩
  f22 := ⟨Tryz.f148.name, by decide, Tryz.func148.trans (congrArg some (by kernel_rfl))⟩
  f23 := ⟨Tryz.f149.name, by decide, Tryz.func149.trans (congrArg some (by kernel_rfl))⟩
  f24 := ⟨Tryz.f150.name, by decide, Tryz.func150.trans (congrArg some (by kernel_rfl))⟩
  f25 := ⟨Tryz.f151.name, by decide, Tryz.func151.trans (congrArg some (by kernel_rfl))⟩
  f26 := ⟨Tryz.f152.name, by decide, Tryz.func152.trans (congrArg some (by kernel_rfl))⟩
  f27 := ⟨Tryz.f153.name, by decide, Tryz.func153.trans (congrArg some (by kernel_rfl))⟩
  f28 := Tryz.func154.trans (congrArg some (by kernel_rfl))
  f29 := Tryz.func155.trans (congrArg some (by kernel_rfl))
  f46 := ⟨Tryz.f159.name, by decide, Tryz.func159.trans (congrArg some (by kernel_rfl))⟩
  f47 := Tryz.func160.trans (congrArg some (by kernel_rfl))
  f48 := Tryz.func161.trans (congrArg some (by kernel_rfl))
  f49 := ⟨Tryz.f162.name, by decide, Tryz.func162.trans (congrArg some (by kernel_rfl))⟩
  f50 := ⟨Tryz.f163.name, by decide, Tryz.func163.trans (congrArg some (by kernel_rfl))⟩
  f57 := ⟨Tryz.f166.name, by decide, Tryz.func166.trans (congrArg some (by kernel_rfl))⟩
  t0 := Tryz.underlying0
  a0 := Tryz.isAgg0
  z0 := Tryz.sizeOf0
  v0 := Tryz.zeroValue0
  t3 := Tryz.underlying3
  a3 := Tryz.isAgg3
  z3 := Tryz.sizeOf3
  v3 := Tryz.zeroValue3
  t4 := Tryz.underlying4
  a4 := Tryz.isAgg4
  z4 := Tryz.sizeOf4
  v4 := Tryz.zeroValue4
  t5 := Tryz.underlying5
  a5 := Tryz.isAgg5
  z5 := Tryz.sizeOf5
  v5 := Tryz.zeroValue5
  t9 := Tryz.underlying9
  a9 := Tryz.isAgg9
  z9 := Tryz.sizeOf9
  v9 := Tryz.zeroValue9
  t22 := Tryz.underlying29
  a22 := Tryz.isAgg29
  z22 := Tryz.sizeOf29
  v22 := Tryz.zeroValue29
  t25 := Tryz.underlying146
  a25 := Tryz.isAgg146
  z25 := Tryz.sizeOf146
  v25 := Tryz.zeroValue146
  t39 := Tryz.underlying42
  a39 := Tryz.isAgg42
  z39 := Tryz.sizeOf42
  v39 := Tryz.zeroValue42
  t45 := Tryz.underlying198
  a45 := Tryz.isAgg198
  z45 := Tryz.sizeOf198
  v45 := Tryz.zeroValue198
  t46 := Tryz.underlying199
  a46 := Tryz.isAgg199
  z46 := Tryz.sizeOf199
  v46 := Tryz.zeroValue199
  t50 := Tryz.underlying109
  a50 := Tryz.isAgg109
  z50 := Tryz.sizeOf109
  v50 := Tryz.zeroValue109
  t53 := Tryz.underlying205
  a53 := Tryz.isAgg205
  z53 := Tryz.sizeOf205
  v53 := Tryz.zeroValue205
  t55 := Tryz.underlying37
  a55 := Tryz.isAgg37
  z55 := Tryz.sizeOf37
  v55 := Tryz.zeroValue37
  t66 := Tryz.underlying209
  a66 := Tryz.isAgg209
  z66 := Tryz.sizeOf209
  v66 := Tryz.zeroValue209
  t70 := Tryz.underlying213
  a70 := Tryz.isAgg213
  z70 := Tryz.sizeOf213
  v70 := Tryz.zeroValue213
  t76 := Tryz.underlying218
  a76 := Tryz.isAgg218
  z76 := Tryz.sizeOf218
  v76 := Tryz.zeroValue218
  t77 := Tryz.underlying219
  a77 := Tryz.isAgg219
  z77 := Tryz.sizeOf219
  v77 := Tryz.zeroValue219 }
end Go.Proofs
namespace Go.Proofs.YtdfgdnaejnngoaaGreat
open Go.RowKit Go.Sort
/-! slices.SortFunc over items, by key.Compare. -/
instance : Inhabited Itm := ⟨⟨⟨#[]⟩, ⟨#[]⟩⟩⟩
theorem cmpNaN_w (k : ByteArray) (w : World) : Calls Tryz.prog 133 #[.string k] w fun e w' => e = .returned (.bool false) ∧ w = w' := by
  go_enter Tryz.func133, Tryz.ntmps133
  go_wp2
  go_ret
  exact ⟨rfl, rfl⟩
theorem cmpStr_w (a b : ByteArray) (w : World) : Calls Tryz.prog 116 #[.string a, .string b] w fun e w' => e = .returned (.int .i64 (cmpB a b)) ∧ w = w' := by
  have HN := Lib.hid (fun k W => cmpNaN_w k W)
  have hr : cmpB a b = if Op.bytesLess a.toList b.toList = true then -1 else if (a.toList == b.toList) = true then 0 else 1 := rfl
  have HR := Lib.hid hr
  clear hr
  cases h1 : Op.bytesLess a.toList b.toList
  · cases h2 : (a.toList == b.toList)
    · go_enter Tryz.func116, Tryz.ntmps116
      go_wp2_with (go_at_call 133; (with_reducible refine (HN.out _ _).mono ?_); rintro e w1 ⟨rfl, rfl⟩)
      go_ret
      exact ⟨by rw [HR.out, h1, h2]; rfl, rfl⟩
    · go_enter Tryz.func116, Tryz.ntmps116
      go_wp2_with (go_at_call 133; (with_reducible refine (HN.out _ _).mono ?_); rintro e w1 ⟨rfl, rfl⟩)
      go_ret
      exact ⟨by rw [HR.out, h1, h2]; rfl, rfl⟩
  · go_enter Tryz.func116, Tryz.ntmps116
    go_wp2_with (go_at_call 133; (with_reducible refine (HN.out _ _).mono ?_); rintro e w1 ⟨rfl, rfl⟩)
    go_ret
    exact ⟨by rw [HR.out, h1]; rfl, rfl⟩
theorem keyCompare_w (x y : Itm) (w : World) : Calls Tryz.prog 86 #[x.v, y.v] w fun e w' => e = .returned (.int .i64 (cmpB x.key y.key)) ∧ ∃ q os', w' = grow (w.drewN q) os' := by
  have HC := Lib.hid (fun a b W => cmpStr_w a b W)
  rw [Itm.v_def, Itm.v_def]
  go_enter Tryz.func86, Tryz.ntmps86
  go_wp2_with (go_at_call 116; (with_reducible refine (HC.out _ _ _).mono ?_); rintro e w1 ⟨rfl, rfl⟩)
  go_ret
  exact ⟨rfl, 0, _, by rw [alloc_eq_grow, alloc_eq_grow, grow_grow]; rfl⟩
theorem ltOf_cmp (x y : Itm) : Go.Proofs.ltOf (fun x y : Itm => cmpB x.key y.key) x y = klt x.key y.key := cmpB_lt x.key y.key
theorem swo_cmp : SWO (Go.Proofs.ltOf fun x y : Itm => cmpB x.key y.key) where
  irrefl x := by rw [ltOf_cmp]; exact klt_irrefl _
  trans x y z h1 h2 := by rw [ltOf_cmp] at *; exact klt_trans h1 h2
  ntrans x y z h1 h2 := by
    rw [ltOf_cmp] at *
    cases h : klt x.key z.key
    · rfl
    · cases h3 : klt y.key x.key
      · have := klt_tri h1 h3
        rw [this, h2] at h
        cases h
      · rw [klt_trans h3 h] at h2
        cases h2
theorem flatK_fl (d : Array Itm) : (flatK Itm.cells 2 d).toList = fl d.toList := by
  apply List.ext_getElem?
  intro t
  by_cases ht : t < d.size * 2
  · have h1 : (flatK Itm.cells 2 d).toList[t]? = some ((flatK Itm.cells 2 d)[t]!) := by
      rw [Array.getElem?_toList, getElem!_pos _ t (by simpa using ht)]
      exact Array.getElem?_eq_getElem (by simpa using ht)
    rw [h1, get_flatK Itm.cells 2 d t ht]
    have hi : t / 2 < d.size := by omega
    have hx : d.toList[t / 2]? = some (d[t / 2]!) := by
      rw [Array.getElem?_toList, getElem!_pos d (t / 2) hi]
      exact Array.getElem?_eq_getElem hi
    have h2 : (Itm.cells (d[t / 2]!))[t % 2]? = some ((Itm.cells (d[t / 2]!))[t % 2]!) := by
      have : t % 2 < (Itm.cells (d[t / 2]!)).length := by rw [Itm.clen]; omega
      rw [getElem!_pos (Itm.cells (d[t / 2]!)) (t % 2) this]
      exact List.getElem?_eq_getElem this
    have := flatten_at (k := 2) (rows := d.toList.map Itm.cells) (fun r hr => by obtain ⟨v, _, rfl⟩ := List.mem_map.1 hr; exact Itm.clen v) (t / 2) (Itm.cells (d[t / 2]!)) (by rw [List.getElem?_map, hx]; rfl) (t % 2) _ h2
    rw [show t / 2 * 2 + t % 2 = t from by omega] at this
    exact this.symm
  · rw [List.getElem?_eq_none (by simp; omega), List.getElem?_eq_none (by rw [fl_len]; simp; omega)]
theorem putCells_take (F c : Array Value) (h : F.size ≤ c.size) : (putCells id 0 F c).size = c.size ∧ (putCells id 0 F c).toList.take F.size = F.toList := by
  refine ⟨by simp [putCells], ?_⟩
  apply List.ext_getElem?
  intro t
  rw [List.getElem?_take]
  by_cases ht : t < F.size
  · have htc : t < c.size := by omega
    rw [if_pos ht]
    simp [putCells, ht, htc]
  · rw [if_neg ht, List.getElem?_eq_none (by simpa using ht)]
theorem holdsK_own {w : World} {B g n cap : Nat} {l : List Itm} (h : OwnsM w B (.slice (some ⟨g, 0, none⟩) n cap) l) : HoldsK Itm.cells 2 w g 0 l.toArray := by
  obtain ⟨cur, hg, hB, hcl, hcm, hlc, ht, _⟩ := h.block
  intro j hj
  have hj2 : j < l.length * 2 := by simpa using hj
  rw [Lib.cell_of_heap hg]
  refine ⟨?_, Lib.frozen_of_heap hg _⟩
  have h1 : (flatK Itm.cells 2 l.toArray)[j]! = (fl l)[j]! := by
    have := flatK_fl l.toArray
    have e : (fl l) = (flatK Itm.cells 2 l.toArray).toList := by rw [this]
    rw [e, getElem!_pos _ j hj, getElem!_pos _ j (by simpa using hj)]
    simp
  show cur.toArray[0 + j]? = some (id ((flatK Itm.cells 2 l.toArray)[j]!))
  rw [h1, Nat.zero_add]
  have h2 : (fl l)[j]? = some ((fl l)[j]!) := by
    have : j < (fl l).length := by rw [fl_len]; exact hj2
    rw [getElem!_pos _ j this]
    exact List.getElem?_eq_getElem this
  have h3 : fl l = (l.map Itm.cells).flatten := rfl
  rw [h3, ← ht] at h2
  rw [List.getElem?_take, if_pos hj2] at h2
  rw [h3, ← ht]
  simpa using h2
theorem sortWorld_row {w : World} {B g cap m : Nat} {l : List Itm} {d' : Array Itm} {os : Array Obj} (h : OwnsM w B (.slice (some ⟨g, 0, none⟩) l.length cap) l) (hs : d'.size = l.length) :
    OwnsM (Go.Proofs.sortWorldK Itm.cells 2 w g 0 m d' os) B (.slice (some ⟨g, 0, none⟩) l.length cap) d'.toList ∧ Fr (fun k => k = g) w (Go.Proofs.sortWorldK Itm.cells 2 w g 0 m d' os) := by
  obtain ⟨cur, hg, hB, hcl, hcm, hlc, ht, _⟩ := h.block
  have hglt := lt_of_row hg
  have hfs : (flatK Itm.cells 2 d').size = d'.size * 2 := size_flatK _ _ _
  have hpc := putCells_take (flatK Itm.cells 2 d') cur.toArray (by rw [hfs]; simp; omega)
  have hsz : w.heap.size ≤ ((w.heap.modify g (onCells (putCells id 0 (flatK Itm.cells 2 d')))) ++ os).size := by simp
  have hrow : (Go.Proofs.sortWorldK Itm.cells 2 w g 0 m d' os).heap[g]? = some (.cells (putCells id 0 (flatK Itm.cells 2 d') cur.toArray).toList.toArray 41 (0, 0)) := by
    show ((w.heap.modify g (onCells (putCells id 0 (flatK Itm.cells 2 d')))) ++ os)[g]? = _
    rw [Array.getElem?_append_left (by simpa using hglt), Array.getElem?_modify, if_pos rfl, hg]
    simp [onCells]
  refine ⟨?_, ⟨rfl, rfl, rfl, hsz, fun k hk hn => ?_⟩⟩
  · have hl : d'.toList.length = l.length := by simpa using hs
    rw [← hl]
    refine OwnsM.of_block hrow hB ?_ hcm (by omega) ?_
    · rw [Array.length_toList, hpc.1]; simpa using hcl
    · have := hpc.2
      rw [hfs, flatK_fl] at this
      rw [show d'.toList.length * 2 = d'.size * 2 from by simp, this]
      rfl
  · show ((w.heap.modify g (onCells (putCells id 0 (flatK Itm.cells 2 d')))) ++ os)[k]? = _
    rw [Array.getElem?_append_left (by simpa using hk), Array.getElem?_modify, if_neg (fun e => hn e.symm)]
def SortedL (l : List Itm) : Prop := ∀ (i j : Nat) (x y : Itm), i < j → l[i]? = some x → l[j]? = some y → klt y.key x.key = false
theorem sort_any (B g cap : Nat) (l : List Itm) (w : World) (h : OwnsM w B (.slice (some ⟨g, 0, none⟩) l.length cap) l) (hl : l.length ≤ 100000) :
    Calls Tryz.prog 114 #[.slice (some ⟨g, 0, none⟩) l.length cap, .func (.func 86) #[] #[]] w
    fun e w' => e = .returned (.tuple #[]) ∧ ∃ l', l'.Perm l ∧ SortedL l' ∧ OwnsM w' B (.slice (some ⟨g, 0, none⟩) l.length cap) l' ∧ Fr (fun k => k = g) w w' := by
  have eg : ∀ args w, (callFunc 86 args).run Tryz.prog w = .ok (.enter 86 args) w := enters_of Tryz.func86 (by kernel_rfl) rfl
  have hglt : g < w.heap.size := by obtain ⟨cur, hg, _⟩ := h.block; exact lt_of_row hg
  have hcon := Go.Proofs.AnyQ.slices_SortFunc Tryz.sortIt 2 Tryz.isAgg41 Tryz.sizeOf41 Itm.cells Itm.clen itm_one (fun x y => cmpB x.key y.key) swo_cmp 86 #[] g 0 cap l.toArray w eg (fun _ _ _ _ x y => keyCompare_w x y _) (holdsK_own h) hglt (by simp; omega)
  refine Calls.mono hcon ?_
  rintro e w' ⟨rfl, d', n, os, hp, hs, rfl⟩
  have hsz : d'.size = l.length := by have := hp.1; simpa using this
  obtain ⟨h1, h2⟩ := sortWorld_row (m := n) (os := os) h hsz
  refine ⟨rfl, d'.toList, ?_, ?_, h1, h2⟩
  · have := hp.2.2
    have e1 : d'.extract 0 l.toArray.size = d' := by rw [List.size_toArray, ← hsz]; simp
    have e2 : l.toArray.extract 0 l.toArray.size = l.toArray := by simp
    rw [e1, e2] at this
    exact this
  · intro i j x y hij hx hy
    have hj : j < d'.size := by have := (List.getElem?_eq_some_iff.1 hy).1; simpa using this
    have := hs i j (Nat.zero_le _) hij (by rw [List.size_toArray, ← hsz]; exact hj)
    rw [ltOf_cmp] at this
    have e1 : d'[i]! = x := by rw [getElem!_pos _ i (by omega)]; have := (List.getElem?_eq_some_iff.1 hx).2; simpa using this
    have e2 : d'[j]! = y := by rw [getElem!_pos _ j hj]; have := (List.getElem?_eq_some_iff.1 hy).2; simpa using this
    rw [e1, e2] at this
    exact this
end Go.Proofs.YtdfgdnaejnngoaaGreat
namespace Go.Proofs.YtdfgdnaejnngoaaGreat
open Go.RowKit
/-! slices.CompactFunc over items, by leaf.isTwin; leaf.isBad. -/
def badI (x : Itm) : Bool := !isKey x.key || !isVal x.val
def badV : Value → Bool
  | .agg #[.string k, .string u] => badI ⟨k, u⟩
  | _ => false
set_option maxRecDepth 100000 in
theorem isBad_any (x : Itm) (w : World) : Calls Tryz.prog 83 #[x.v] w fun e w' => e = .returned (.bool (badI x)) ∧ Below w.heap.size w w' := by
  obtain ⟨k, v⟩ := x
  have hK := fun W => keyIs_any k W
  have hV := fun W => keyIsVal_any v W
  have hb : badI ⟨k, v⟩ = (!isKey k || !isVal v) := rfl
  generalize badI ⟨k, v⟩ = R at hb ⊢
  generalize isKey k = p at hK hb
  generalize isVal v = q at hV hb
  have HK := Lib.hid hK
  have HV := Lib.hid hV
  clear hK hV
  rw [Itm.v_def]
  have c1 : (w.alloc (.cells #[.string k, .string v] 41)).cell? ⟨w.heap.size, 1, none⟩ = some (.string v) := by rw [Lib.cell_of_heap (heap_alloc_new w _)]; rfl
  have C1 := Lib.hid c1
  clear c1
  cases p
  · simp only [Bool.not_false, Bool.true_or] at hb
    subst hb
    go_enter Tryz.func83, Tryz.ntmps83
    go_wp2_with (go_at_call 31; (with_reducible refine (HK.out _).mono ?_); rintro e w1 ⟨rfl, hb1⟩)
    go_ret
    exact ⟨rfl, below_next (by repeat (first | assumption | exact Below.refl _ _ | (refine below_step (w := ?_) ?_ ?_ ?_; rotate_left 2; assumption) | refine Below.drew ?_ | refine below_drewN ?_ _ | refine Below.alloc ?_ ?_ _ | refine Below.setCell ?_ ?_ _ | (focus (simp; done)) | (focus (simp; omega)) | omega)) hb1⟩
  · simp only [Bool.not_true, Bool.false_or] at hb
    subst hb
    go_enter Tryz.func83, Tryz.ntmps83
    go_wp2_with (first | (go_at_call 31; (with_reducible refine (HK.out _).mono ?_); rintro e w1 ⟨rfl, hb1⟩; have c1 := (hb1.cell (p := ⟨w.heap.size, 1, none⟩) (by simp)).trans C1.out; have HB1 := Lib.hid (below_next (Below.alloc (Below.refl _ _) (Nat.le_refl _) _) hb1); clear hb1) | (go_at_call 32; (with_reducible refine (HV.out _).mono ?_); rintro e w2 ⟨rfl, hb2⟩))
    go_ret
    exact ⟨rfl, below_next HB1.out hb2⟩
theorem isTwin_any (x y : Itm) (w : World) : Calls Tryz.prog 88 #[x.v, y.v] w fun e w' => e = .returned (.bool (decide (x.key = y.key))) ∧ Below w.heap.size w w' := by
  have hr : (x.key.toList == y.key.toList) = decide (x.key = y.key) := by
    rw [Bool.eq_iff_iff]
    simp [bytes_inj]
  have HR := Lib.hid hr
  clear hr
  rw [Itm.v_def, Itm.v_def]
  go_enter Tryz.func88, Tryz.ntmps88
  go_wp2
  go_ret
  exact ⟨ret_bool HR.out, (by repeat (first | assumption | exact Below.refl _ _ | (refine below_step (w := ?_) ?_ ?_ ?_; rotate_left 2; assumption) | refine Below.drew ?_ | refine below_drewN ?_ _ | refine Below.alloc ?_ ?_ _ | refine Below.setCell ?_ ?_ _ | (focus (simp; done)) | (focus (simp; omega)) | omega))⟩
/-- two that follow one another with one key -/
def adjB : List Itm → Bool
  | x :: y :: l => decide (y.key = x.key) || adjB (y :: l)
  | _ => false
theorem adj_at : ∀ {l : List Itm}, adjB l = false → ∀ {k : Nat} {x y : Itm}, l[k]? = some x → l[k + 1]? = some y → decide (y.key = x.key) = false
  | [], _, k, x, y, hx, _ => by simp at hx
  | [z], _, k, x, y, _, hy => by simp at hy
  | a :: b :: l, h, 0, x, y, hx, hy => by
    simp at hx hy
    subst hx hy
    simp [adjB] at h
    simp [h.1]
  | a :: b :: l, h, k + 1, x, y, hx, hy => by
    simp at hx hy
    rw [adjB, Bool.or_eq_false_iff] at h
    exact adj_at h.2 hx (by simpa using hy)
theorem adj_of : ∀ {l : List Itm}, adjB l = true → ∃ k x y, l[k]? = some x ∧ l[k + 1]? = some y ∧ decide (y.key = x.key) = true
  | [], h => by cases h
  | [z], h => by cases h
  | a :: b :: l, h => by
    rw [adjB, Bool.or_eq_true] at h
    rcases h with h | h
    · exact ⟨0, a, b, rfl, rfl, h⟩
    · obtain ⟨k, x, y, h1, h2, h3⟩ := adj_of h
      exact ⟨k + 1, x, y, by simpa using h1, by simpa using h2, h3⟩
theorem compact_few (A : Option Addr) (n cap : Nat) (f : Value) (w : World) (hn : n < 2) : Calls Tryz.prog 87 #[.slice A n cap, f] w fun e w' => e = .returned (.slice A n cap) ∧ w = w' := by
  have hnI : (n : Int) < 2 := by omega
  go_enter Tryz.func87, Tryz.ntmps87
  go_wp2
  go_ret
  exact ⟨rfl, rfl⟩
set_option maxHeartbeats 1000000 in
set_option maxRecDepth 100000 in
theorem compact_none (g cap : Nat) (l : List Itm) (w : World) (B : Nat) (h : OwnsM w B (.slice (some ⟨g, 0, none⟩) l.length cap) l) (hl : l.length ≤ 100000) (h2 : 2 ≤ l.length) (hadj : adjB l = false) :
    Calls Tryz.prog 87 #[.slice (some ⟨g, 0, none⟩) l.length cap, .func (.func 88) #[] #[]] w fun e w' => e = .returned (.slice (some ⟨g, 0, none⟩) l.length cap) ∧ Below w.heap.size w w' := by
  have HO := Lib.hid h
  have HA := Lib.hid hadj
  have hnI : (2 : Int) ≤ (l.length : Int) := by omega
  clear h hadj
  go_enter Tryz.func87, Tryz.ntmps87
  go_wp2
  go_loopw [5] (fun i wr => ∃ k : Nat, i = .int .i64 k ∧ 1 ≤ k ∧ k ≤ l.length ∧ Below w.heap.size w wr) (fun i _ => l.length + 1 - (intOf i).toNat)
  case atStart => exact ⟨1, rfl, by omega, by omega, (by repeat (first | assumption | exact Below.refl _ _ | (refine below_step (w := ?_) ?_ ?_ ?_; rotate_left 2; assumption) | refine Below.drew ?_ | refine below_drewN ?_ _ | refine Below.alloc ?_ ?_ _ | refine Below.setCell ?_ ?_ _ | (focus (simp; done)) | (focus (simp; omega)) | omega))⟩
  case round =>
    obtain ⟨k, rfl, hk1, hk, hbel⟩ := hrel
    by_cases hkl : k < l.length
    · have hkI : (k : Int) < (l.length : Int) := by omega
      obtain ⟨y, hy⟩ := get_lt hkl
      obtain ⟨m, hmk⟩ : ∃ m, k = m + 1 := ⟨k - 1, by omega⟩
      obtain ⟨x, hx⟩ := get_lt (l := l) (i := m) (by omega)
      obtain ⟨g1, e1, _, hglt, _, hcx⟩ := HO.out.row Itm.clen hx
      cases e1
      obtain ⟨g2, e2, _, _, _, hcy⟩ := HO.out.row Itm.clen hy
      cases e2
      have d0 := (hbel.cell (p := ⟨g, _, none⟩) hglt).trans (hcx 0 _ rfl)
      have d1 := (hbel.cell (p := ⟨g, _, none⟩) hglt).trans (hcx 1 _ rfl)
      have d2 := (hbel.cell (p := ⟨g, _, none⟩) hglt).trans (hcy 0 _ rfl)
      have d3 := (hbel.cell (p := ⟨g, _, none⟩) hglt).trans (hcy 1 _ rfl)
      simp only [Nat.add_zero] at d0 d2
      have hq := adj_at HA.out hx (hmk ▸ hy)
      have hc := fun W => isTwin_any y x W
      rw [hq] at hc
      obtain ⟨xk, xv⟩ := x
      obtain ⟨yk, yv⟩ := y
      rw [Itm.v_def, Itm.v_def] at hc
      dsimp only at d0 d1 d2 d3
      have HC := Lib.hid hc
      have hglt2 : g < wr.heap.size := Nat.lt_of_lt_of_le hglt hbel.size
      have hw1 : IntKind.i64.wrap ((k : Int) - 1) = (m : Int) := by rw [IntKind.wrap_i64]; omega
      have hm0 : (m : Int) < (l.length : Int) := by omega
      clear hc hcx hcy hx hy hq hglt hmk
      go_wp2
      refine rg_start (n := 11) (fun w' => w'.cell? ⟨g, m * 2, none⟩ = some (.string xk) ∧ w'.cell? ⟨g, m * 2 + 1, none⟩ = some (.string xv) ∧ w'.cell? ⟨g, k * 2, none⟩ = some (.string yk) ∧ w'.cell? ⟨g, k * 2 + 1, none⟩ = some (.string yv) ∧ Below w.heap.size w w' ∧ g < w'.heap.size) #[false, false, false, false, false, false, false, false, false, false, false] (by kernel_rfl) rfl rfl ⟨d0, d1, d2, d3, hbel.drew, hglt2⟩ (fun hHeld => ?_)
      refine rg_take (i := 0) (N := (some 18)) (v := ?_) (a' := ?_) #[true, false, false, false, false, false, false, false, false, false, false] rfl rfl (by kernel_rfl) (fun _ _ _ h => h) (by rfl) ?_ hHeld ?_ ?_
      rotate_left 2
      · rintro w' ⟨s0, s1, s2, s3, s4, s5⟩
        go_simp
        try with_reducible rfl
      · simp only [Act.put, List.setIfInBounds_toArray, List.set_cons_zero, List.set_cons_succ]
        rfl
      refine rg_take (i := 1) (N := (some 19)) (v := ?_) (a' := ?_) #[true, true, false, false, false, false, false, false, false, false, false] rfl rfl (by kernel_rfl) (fun _ _ _ h => h) (by rfl) ?_ hHeld ?_ ?_
      rotate_left 2
      · rintro w' ⟨s0, s1, s2, s3, s4, s5⟩
        go_simp
        try with_reducible rfl
      · simp only [Act.put, List.setIfInBounds_toArray, List.set_cons_zero, List.set_cons_succ]
        rfl
      refine rg_take (i := 2) (N := (some 20)) (v := ?_) (a' := ?_) #[true, true, true, false, false, false, false, false, false, false, false] rfl rfl (by kernel_rfl) (fun _ _ _ h => h) (by rfl) ?_ hHeld ?_ ?_
      rotate_left 2
      · rintro w' ⟨s0, s1, s2, s3, s4, s5⟩
        go_simp
        try with_reducible rfl
      · simp only [Act.put, List.setIfInBounds_toArray, List.set_cons_zero, List.set_cons_succ]
        rfl
      refine rg_take (i := 3) (N := (some 21)) (v := ?_) (a' := ?_) #[true, true, true, true, false, false, false, false, false, false, false] rfl rfl (by kernel_rfl) (fun _ _ _ h => h) (by rfl) ?_ hHeld ?_ ?_
      rotate_left 2
      · rintro w' ⟨s0, s1, s2, s3, s4, s5⟩
        go_simp
        try with_reducible rfl
      · simp only [Act.put, List.setIfInBounds_toArray, List.set_cons_zero, List.set_cons_succ]
        rfl
      refine rg_take (i := 4) (N := (some 22)) (v := ?_) (a' := ?_) #[true, true, true, true, true, false, false, false, false, false, false] rfl rfl (by kernel_rfl) (fun _ _ _ h => h) (by rfl) ?_ hHeld ?_ ?_
      rotate_left 2
      · rintro w' ⟨s0, s1, s2, s3, s4, s5⟩
        go_simp
        try with_reducible rfl
      · simp only [Act.put, List.setIfInBounds_toArray, List.set_cons_zero, List.set_cons_succ]
        rfl
      refine rg_take (i := 5) (N := (some 23)) (v := ?_) (a' := ?_) #[true, true, true, true, true, true, false, false, false, false, false] rfl rfl (by kernel_rfl) (fun _ _ _ h => h) (by rfl) ?_ hHeld ?_ ?_
      rotate_left 2
      · rintro w' ⟨s0, s1, s2, s3, s4, s5⟩
        go_simp
        try with_reducible rfl
      · simp only [Act.put, List.setIfInBounds_toArray, List.set_cons_zero, List.set_cons_succ]
        rfl
      refine rg_take (i := 6) (N := (some 24)) (v := ?_) (a' := ?_) #[true, true, true, true, true, true, true, false, false, false, false] rfl rfl (by kernel_rfl) (fun _ _ _ h => h) (by rfl) ?_ hHeld ?_ ?_
      rotate_left 2
      · rintro w' ⟨s0, s1, s2, s3, s4, s5⟩
        go_simp
        try with_reducible rfl
      · simp only [Act.put, List.setIfInBounds_toArray, List.set_cons_zero, List.set_cons_succ]
        rfl
      refine rg_take (i := 7) (N := (some 25)) (v := ?_) (a' := ?_) #[true, true, true, true, true, true, true, true, false, false, false] rfl rfl (by kernel_rfl) (fun _ _ _ h => h) (by rfl) ?_ hHeld ?_ ?_
      rotate_left 2
      · rintro w' ⟨s0, s1, s2, s3, s4, s5⟩
        go_simp
        try with_reducible rfl
      · simp only [Act.put, List.setIfInBounds_toArray, List.set_cons_zero, List.set_cons_succ]
        rfl
      refine rg_take (i := 8) (N := (some 26)) (v := ?_) (a' := ?_) #[true, true, true, true, true, true, true, true, true, false, false] rfl rfl (by kernel_rfl) (fun _ _ _ h => h) (by rfl) ?_ hHeld ?_ ?_
      rotate_left 2
      · rintro w' ⟨s0, s1, s2, s3, s4, s5⟩
        go_simp
        try with_reducible rfl
      · simp only [Act.put, List.setIfInBounds_toArray, List.set_cons_zero, List.set_cons_succ]
        rfl
      refine rg_take (i := 9) (N := (some 27)) (v := ?_) (a' := ?_) #[true, true, true, true, true, true, true, true, true, true, false] rfl rfl (by kernel_rfl) (fun _ _ _ h => h) (by rfl) ?_ hHeld ?_ ?_
      rotate_left 2
      · rintro w' ⟨s0, s1, s2, s3, s4, s5⟩
        go_simp
        try with_reducible rfl
      · simp only [Act.put, List.setIfInBounds_toArray, List.set_cons_zero, List.set_cons_succ]
        rfl
      refine rg_one (i := 10) #[true, true, true, true, true, true, true, true, true, true, true] rfl (by kernel_rfl) (by rfl) (fun K hK => ?_)
      obtain ⟨s0, s1, s2, s3, s4, s5⟩ := hHeld
      repeat go_step
      ((with_reducible refine (HC.out _).mono ?_); rintro e w2 ⟨rfl, hb2⟩)
      try dsimp only
      refine hK.out _ _ ?_ (fun hHeld => ?_)
      · (repeat (first | (with_reducible assumption) | (with_reducible apply And.intro) | (with_reducible refine keep_cell (w := ?_) ?_ ?_ ?_; rotate_left; with_reducible assumption) | (with_reducible refine keep_cell_alloc ?_ ?_) | (with_reducible refine keep_lt (w := ?_) ?_ ?_; rotate_left; with_reducible assumption) | (with_reducible refine keep_lt_alloc ?_) | (with_reducible refine below_next (w := ?_) ?_ ?_; rotate_left 2; with_reducible assumption) | (with_reducible refine below_alloc ?_) | (with_reducible refine Below.drew ?_) | (with_reducible refine keep_lt_drew ?_) | (with_reducible refine keep_cell_drew ?_)))
      clear hK K
      clear s0 s1 s2 s3 s4 s5
      refine rg_done (by kernel_rfl) ?_
      obtain ⟨_, _, _, _, t4, _⟩ := hHeld
      clear d0 d1 d2 d3
      go_wp2
      refine ⟨⟨k + 1, by go_num, by omega, by omega, t4⟩, ?_⟩
      simp [intOf]
      omega
    · obtain rfl : k = l.length := by omega
      go_wp2
      go_ret
      exact ⟨rfl, hbel⟩
end Go.Proofs.YtdfgdnaejnngoaaGreat
