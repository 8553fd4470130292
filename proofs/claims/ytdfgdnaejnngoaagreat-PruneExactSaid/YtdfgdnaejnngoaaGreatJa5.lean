import Derived.Test.YtdfgdnaejnngoaaGreatJa4
/-
  DERIVED: THE SHELF's CONTRACTS AT THIS DUMP, IN PLAIN WORDS (tools/lay-plain.mjs out of 'TryzShelf.lean', which tools/lay-shelf.mjs wrote): THE SAME DECLARATIONS UNDER THE SAME NAMES: 'import', 'namespace', 'open', 'def', 'theorem' AND NOTHING ELSE: no command of the shelf's: FOR A HAND-IN. Each laying: the table of numbers ('.._ren') and one theorem, a field a fact of the dump's own or the kernel's comparison; each contract: ONE APPLICATION.
-/
import Derived.RangeFuncNested
import Derived.RangeFuncLeaves
import Derived.RangeFuncBox
import Derived.OwnWalkIn
import Derived.TacticsInMore
import Derived.LoopNIn
import Derived.LoopIn
import Derived.Shelf.SlSortCmp.WholeK
import Derived.Test.YtdfgdnaejnngoaaGreatProg
namespace Go.Proofs.YtdfgdnaejnngoaaGreat
open Go.RowKit
/-! leaf.do: a message to a leaf that is still made. -/
/-- a leaf that is still made -/
structure DoAt (w : World) (B b : Nat) (A : Option Addr) (cap : Nat) (l : List Itm) : Prop where
  cell : w.heap[b]? = some (.cells #[.slice A l.length cap, .int .i64 0] 139 (0, 0))
  own : OwnsM w B (.slice A l.length cap) l
theorem DoAt.lt {w : World} {B b cap : Nat} {A : Option Addr} {l : List Itm} (h : DoAt w B b A cap l) : b < w.heap.size := lt_of_row h.cell
theorem DoAt.fr {S : Nat → Prop} {w w' : World} {B b cap : Nat} {A : Option Addr} {l : List Itm} (h : DoAt w B b A cap l) (hf : Fr S w w') (h1 : ¬ S b) (h2 : ∀ k, B ≤ k → ¬ S k) : DoAt w' B b A cap l := ⟨hf.row h1 h.cell, h.own.fr hf h2⟩
theorem DoAt.below {w w' : World} {B b cap : Nat} {A : Option Addr} {l : List Itm} (h : DoAt w B b A cap l) (hf : Below w.heap.size w w') : DoAt w' B b A cap l := h.fr (Fr.of_below (S := fun _ => False) hf) id (fun _ _ h => h)
theorem DoAt.c0 {w : World} {B b cap : Nat} {A : Option Addr} {l : List Itm} (h : DoAt w B b A cap l) : w.cell? ⟨b, 0, none⟩ = some (.slice A l.length cap) := by rw [Lib.cell_of_heap h.cell]; rfl
theorem DoAt.f0 {w : World} {B b cap : Nat} {A : Option Addr} {l : List Itm} (h : DoAt w B b A cap l) : w.frozen? ⟨b, 0, none⟩ = false := Lib.frozen_of_heap h.cell 0
/-- a block of items is not the leaf's -/
theorem not_leaf {w : World} {B b : Nat} {v : Value} {l : List Itm} {cs : Array Value} {fz : Nat × Nat} (h : OwnsM w B v l) (hb : w.heap[b]? = some (.cells cs 139 fz)) : v.ownBlock ≠ some b := by
  intro e
  rcases h.2 with ⟨he, _⟩ | ⟨g, cap, cur, he, _, hgg, _⟩
  · subst he; cases e
  · subst he
    simp only [Value.ownBlock, Option.some.injEq] at e
    subst e
    rw [hb] at hgg
    simp only [Option.some.injEq, Obj.cells.injEq] at hgg
    exact absurd hgg.2.1 (by decide)
def DoRes (B b : Nat) (A : Option Addr) (w : World) (n cap : Nat) (m : List Itm) (e : Ending) (w' : World) : Prop := e = .returned (.tuple #[]) ∧ ∃ A' cap', DoAt w' B b A' cap' m ∧ Fr (fun k => k = b ∨ (Value.slice A n cap).ownBlock = some k) w w'
theorem do_store {w w3 : World} {B b n cap cap' : Nat} {A A' : Option Addr} {v0 : Value} {m : List Itm} {S : Nat → Prop} (hrow : w3.heap[b]? = some (.cells #[v0, .int .i64 0] 139 (0, 0))) (ho : OwnsM w3 B (.slice A' m.length cap') m) (hf : Fr S w w3) (hS : ∀ q, q < w.heap.size → S q → q = b ∨ (Value.slice A n cap).ownBlock = some q) :
    DoRes B b A w n cap m (.returned (.tuple #[])) (w3.setCell ⟨b, 0, none⟩ (.slice A' m.length cap')) := by
  have hfs : Fr (fun q => q = b) w3 (w3.setCell ⟨b, 0, none⟩ (.slice A' m.length cap')) := (Fr.refl (fun q => q = b) w3).setCell (p := ⟨b, 0, none⟩) (fun _ => rfl) _
  refine ⟨rfl, A', cap', ⟨by rw [setCell_row hrow]; rfl, ho.fr' hfs (fun g hg e => ?_)⟩, (hf.mono hS).trans hfs (fun q _ e => .inl e)⟩
  subst e
  exact not_leaf ho hrow hg
theorem box_cells {w w1 : World} {T : TypeId} {cs : Array Value} (h : Below (w.alloc (.cells cs T)).heap.size (w.alloc (.cells cs T)) w1) : w1.heap[w.heap.size]? = some (.cells cs T (0, 0)) := by
  rw [h.block w.heap.size (by simp)]
  exact heap_alloc_new w _
set_option maxHeartbeats 1000000 in
set_option maxRecDepth 100000 in
theorem do_none (B b cap : Nat) (A : Option Addr) (l : List Itm) (x : Mg) (w : World) (h : DoAt w B b A cap l) (hr : Rises l) (hl : l.length ≤ 80000) (hk : hasK l x.key = false) (ha : applyO x none = none) :
    Calls Tryz.prog 92 #[.pointer (some ⟨b, 0, none⟩), x.v] w (DoRes B b A w l.length cap l) := by
  obtain ⟨kind, k, v⟩ := x
  have hD : ∀ W, Below w.heap.size w W → DoAt W B b A cap l := fun W hW => h.below hW
  have hP : ∀ W, Below w.heap.size w W → Calls Tryz.prog 107 #[.pointer (some ⟨b, 0, none⟩), .string k] W fun e w' => e = .returned (.tuple #[.int .i64 (lb l k), .bool false]) ∧ Below W.heap.size W w' := fun W hW => by
    have := place_any b cap A l k W (hD W hW).c0 ((hD W hW).own.elems Itm.clen) hr (by omega)
    rw [hk] at this
    exact this
  have hA := fun W => msgApply_any ⟨kind, k, v⟩ none W
  rw [ha, Mg.v_def] at hA
  dsimp only [strO, Option.getD, Option.isSome] at hA
  have HP := Lib.hid (hP _ (Below.alloc (Below.refl _ w) (Nat.le_refl _) (.cells #[.int .i64 kind, .string k, .string v] 90)))
  have HA := Lib.hid hA
  have HD := Lib.hid hD
  generalize lb l k = i at HP
  clear hP hA hD h hr hk ha hl
  rw [Mg.v_def]
  go_enter Tryz.func92, Tryz.ntmps92
  go_wp2_with (first | (go_at_call 107; (with_reducible refine HP.out.mono ?_); rintro e w1 ⟨rfl, hb1⟩; obtain ⟨c0, c1, c2⟩ := box3 hb1; have HB1 := Lib.hid (below_next (Below.alloc (Below.refl _ _) (Nat.le_refl _) _) hb1); clear hb1) | (go_at_call 117; (with_reducible refine (HA.out _).mono ?_); rintro e w2 ⟨rfl, hb2⟩; have c1' := (hb2.cell (p := ⟨w.heap.size, 1, none⟩) (World.block_lt_of_cell? _ _ c1)).trans c1; have HB2 := Lib.hid (below_next HB1.out hb2); clear hb2 c0 c1 c2))
  go_end0
  exact ⟨rfl, A, cap, HD.out _ (below_alloc HB2.out), Fr.of_below (below_alloc HB2.out)⟩
set_option maxHeartbeats 1000000 in
set_option maxRecDepth 100000 in
theorem do_set (B b cap : Nat) (A : Option Addr) (l : List Itm) (x : Mg) (u : ByteArray) (w : World) (h : DoAt w B b A cap l) (hr : Rises l) (hl : l.length ≤ 80000) (y : Itm) (hk : hasK l x.key = true) (hy : l[lb l x.key]? = some y) (ha : applyO x (some y.val) = some u) :
    Calls Tryz.prog 92 #[.pointer (some ⟨b, 0, none⟩), x.v] w (DoRes B b A w l.length cap (l.set (lb l x.key) ⟨x.key, u⟩)) := by
  obtain ⟨kind, k, v⟩ := x
  obtain ⟨g, rfl, hBg, hglt, hcap, hrow⟩ := h.own.row Itm.clen hy
  have hgb : g ≠ b := fun e => not_leaf h.own h.cell (by rw [e]; rfl)
  have hD : ∀ W, Below w.heap.size w W → DoAt W B b (some ⟨g, 0, none⟩) cap l := fun W hW => h.below hW
  have hP : ∀ W, Below w.heap.size w W → Calls Tryz.prog 107 #[.pointer (some ⟨b, 0, none⟩), .string k] W fun e w' => e = .returned (.tuple #[.int .i64 (lb l k), .bool true]) ∧ Below W.heap.size W w' := fun W hW => by
    have := place_any b cap (some ⟨g, 0, none⟩) l k W (hD W hW).c0 ((hD W hW).own.elems Itm.clen) hr (by omega)
    rw [hk] at this
    exact this
  have hA := fun W => msgApply_any ⟨kind, k, v⟩ (some y.val) W
  rw [ha, Mg.v_def] at hA
  dsimp only [strO, Option.getD, Option.isSome] at hA
  have HP := Lib.hid (hP _ (Below.alloc (Below.refl _ w) (Nat.le_refl _) (.cells #[.int .i64 kind, .string k, .string v] 90)))
  have HA := Lib.hid hA
  have HD := Lib.hid hD
  dsimp only at hy hk ⊢
  have hil := (List.getElem?_eq_some_iff.1 hy).1
  have hblt := h.lt
  generalize lb l k = i at *
  have hiI : (i : Int) < (l.length : Int) := by omega
  have hd0 : ∀ W, Below w.heap.size w W → W.cell? ⟨b, 0, none⟩ = some (.slice (some ⟨g, 0, none⟩) l.length cap) := fun W hW => (hD W hW).c0
  have he0 : ∀ W, Below w.heap.size w W → W.cell? ⟨g, i * 2, none⟩ = some (.string y.key) := fun W hW => (hW.cell (p := ⟨g, _, none⟩) hglt).trans (hrow 0 _ rfl)
  have he1 : ∀ W, Below w.heap.size w W → W.cell? ⟨g, i * 2 + 1, none⟩ = some (.string y.val) := fun W hW => (hW.cell (p := ⟨g, _, none⟩) hglt).trans (hrow 1 _ rfl)
  have hfz : ∀ W, Below w.heap.size w W → ∀ o, W.frozen? ⟨g, o, none⟩ = false := fun W hW o => (hD W hW).own.unfrozen o
  have D0 := Lib.hid hd0
  have E0 := Lib.hid he0
  have E1 := Lib.hid he1
  have FZ := Lib.hid hfz
  clear hP hA hD hd0 he0 he1 hfz h hr hk ha hl hrow hy hcap
  rw [Mg.v_def]
  obtain ⟨yk, yv⟩ := y
  dsimp only at E0 E1 HA
  go_enter Tryz.func92, Tryz.ntmps92
  go_wp2_with (first | (go_at_call 107; (with_reducible refine HP.out.mono ?_); rintro e w1 ⟨rfl, hb1⟩; obtain ⟨c0, c1, c2⟩ := box3 hb1; have HB1 := Lib.hid (below_next (Below.alloc (Below.refl _ _) (Nat.le_refl _) _) hb1); clear hb1; have d0 := D0.out _ HB1.out; have d1 := E1.out _ HB1.out) | (go_at_call 117; (with_reducible refine (HA.out _).mono ?_); rintro e w2 ⟨rfl, hb2⟩; have c1' := (hb2.cell (p := ⟨w.heap.size, 1, none⟩) (World.block_lt_of_cell? _ _ c1)).trans c1; have HB2 := Lib.hid (below_next HB1.out hb2); clear hb2 c0 c1 c2 d0 d1))
  have hb3 : Below w.heap.size w (w2.alloc (.cells #[.string k, .string u] 41)) := below_alloc HB2.out
  have x0 : (w2.alloc (.cells #[.string k, .string u] 41)).cell? ⟨w2.heap.size, 0, none⟩ = some (.string k) := by rw [Lib.cell_of_heap (heap_alloc_new w2 _)]; rfl
  have x1 : (w2.alloc (.cells #[.string k, .string u] 41)).cell? ⟨w2.heap.size, 1, none⟩ = some (.string u) := by rw [Lib.cell_of_heap (heap_alloc_new w2 _)]; rfl
  have hgw : g < w2.heap.size := Nat.lt_of_lt_of_le hglt HB2.out.size
  have hxl : w2.heap.size < (w2.alloc (.cells #[.string k, .string u] 41)).heap.size := by simp
  clear c1' HB2
  generalize w2.alloc (.cells #[.string k, .string u] 41) = W3 at *
  generalize w2.heap.size = xb at *
  have d0 := D0.out _ hb3
  have e0 := E0.out _ hb3
  have e1 := E1.out _ hb3
  have f0 := FZ.out _ hb3 (i * 2)
  have f1 := FZ.out _ hb3 (i * 2 + 1)
  have e1' : (W3.setCell ⟨g, i * 2, none⟩ (.string k)).cell? ⟨g, i * 2 + 1, none⟩ = some (.string yv) := by rw [World.cell?_setCell_other _ _ _ _ (by simp)]; exact e1
  have HB3 := Lib.hid hb3
  clear hb3
  refine rg_start (n := 8) (fun w' => w'.cell? ⟨b, 0, none⟩ = some (.slice (some ⟨g, 0, none⟩) l.length cap) ∧ w'.cell? ⟨xb, 0, none⟩ = some (.string k) ∧ w'.cell? ⟨xb, 1, none⟩ = some (.string u)) #[false, false, false, false, false, false, false, false] (by kernel_rfl) rfl rfl ⟨d0, x0, x1⟩ (fun hHeld => ?_)
  refine rg_take (i := 0) (N := (some 42)) (v := ?_) (a' := ?_) #[true, false, false, false, false, false, false, false] rfl rfl (by kernel_rfl) (fun _ _ _ h => h) (by rfl) ?_ hHeld ?_ ?_
  rotate_left 2
  · rintro w' ⟨s0, s1, s2⟩
    go_simp
    try with_reducible rfl
  · simp only [Act.put, List.setIfInBounds_toArray, List.set_cons_zero, List.set_cons_succ]
    rfl
  refine rg_take (i := 1) (N := (some 43)) (v := ?_) (a' := ?_) #[true, true, false, false, false, false, false, false] rfl rfl (by kernel_rfl) (fun _ _ _ h => h) (by rfl) ?_ hHeld ?_ ?_
  rotate_left 2
  · rintro w' ⟨s0, s1, s2⟩
    go_simp
    try with_reducible rfl
  · simp only [Act.put, List.setIfInBounds_toArray, List.set_cons_zero, List.set_cons_succ]
    rfl
  refine rg_take (i := 2) (N := (some 44)) (v := ?_) (a' := ?_) #[true, true, true, false, false, false, false, false] rfl rfl (by kernel_rfl) (fun _ _ _ h => h) (by rfl) ?_ hHeld ?_ ?_
  rotate_left 2
  · rintro w' ⟨s0, s1, s2⟩
    go_simp
    try with_reducible rfl
  · simp only [Act.put, List.setIfInBounds_toArray, List.set_cons_zero, List.set_cons_succ]
    rfl
  refine rg_take (i := 3) (N := (some 45)) (v := ?_) (a' := ?_) #[true, true, true, true, false, false, false, false] rfl rfl (by kernel_rfl) (fun _ _ _ h => h) (by rfl) ?_ hHeld ?_ ?_
  rotate_left 2
  · rintro w' ⟨s0, s1, s2⟩
    go_simp
    try with_reducible rfl
  · simp only [Act.put, List.setIfInBounds_toArray, List.set_cons_zero, List.set_cons_succ]
    rfl
  refine rg_take (i := 4) (N := (some 46)) (v := ?_) (a' := ?_) #[true, true, true, true, true, false, false, false] rfl rfl (by kernel_rfl) (fun _ _ _ h => h) (by rfl) ?_ hHeld ?_ ?_
  rotate_left 2
  · rintro w' ⟨s0, s1, s2⟩
    go_simp
    try with_reducible rfl
  · simp only [Act.put, List.setIfInBounds_toArray, List.set_cons_zero, List.set_cons_succ]
    rfl
  refine rg_take (i := 5) (N := (some 47)) (v := ?_) (a' := ?_) #[true, true, true, true, true, true, false, false] rfl rfl (by kernel_rfl) (fun _ _ _ h => h) (by rfl) ?_ hHeld ?_ ?_
  rotate_left 2
  · rintro w' ⟨s0, s1, s2⟩
    go_simp
    try with_reducible rfl
  · simp only [Act.put, List.setIfInBounds_toArray, List.set_cons_zero, List.set_cons_succ]
    rfl
  refine rg_take (i := 6) (N := (some 48)) (v := ?_) (a' := ?_) #[true, true, true, true, true, true, true, false] rfl rfl (by kernel_rfl) (fun _ _ _ h => h) (by rfl) ?_ hHeld ?_ ?_
  rotate_left 2
  · rintro w' ⟨s0, s1, s2⟩
    go_simp
    try with_reducible rfl
  · simp only [Act.put, List.setIfInBounds_toArray, List.set_cons_zero, List.set_cons_succ]
    rfl
  refine rg_one (i := 7) #[true, true, true, true, true, true, true, true] rfl (by kernel_rfl) (by rfl) (fun K hK => ?_)
  obtain ⟨s0, s1, s2⟩ := hHeld
  repeat go_step
  refine hK.out _ _ ?_ (fun hHeld => ?_)
  · have hf : Fr (fun q => q = g) W3 _ := wrW_fr (g := g) [.string k, .string u] W3 (i * 2); exact ⟨hf.cell (World.block_lt_of_cell? _ _ d0) (fun e => hgb e.symm) d0, hf.cell hxl (by omega) x0, hf.cell hxl (by omega) x1⟩
  clear hK K
  clear s0 s1 s2
  refine rg_done (by kernel_rfl) ?_
  go_end0
  have hDo := HD.out W3 HB3.out
  have hf : Fr (fun q => q = g) W3 (wrW W3 g (i * 2) [.string k, .string u]) := wrW_fr (g := g) [.string k, .string u] W3 (i * 2)
  have how := hDo.own.write Itm.clen (i := i) hil ⟨k, u⟩
  have hrow := hf.row (fun e => hgb e.symm) hDo.cell
  have hlen : (l.set i ⟨k, u⟩).length = l.length := List.length_set
  exact ⟨rfl, some ⟨g, 0, none⟩, cap, ⟨by rw [hlen]; exact hrow, by rw [hlen]; exact how⟩, ((Fr.of_below HB3.out).tr (hf.mono (fun q _ e => .inr (by subst e; rfl)))).drew⟩
set_option maxHeartbeats 1000000 in
set_option maxRecDepth 100000 in
theorem do_del (B b cap : Nat) (A : Option Addr) (l : List Itm) (x : Mg) (w : World) (h : DoAt w B b A cap l) (hr : Rises l) (hl : l.length ≤ 80000) (y : Itm) (hk : hasK l x.key = true) (hy : l[lb l x.key]? = some y) (ha : applyO x (some y.val) = none) :
    Calls Tryz.prog 92 #[.pointer (some ⟨b, 0, none⟩), x.v] w (DoRes B b A w l.length cap (l.eraseIdx (lb l x.key))) := by
  obtain ⟨kind, k, v⟩ := x
  obtain ⟨g, rfl, hBg, hglt, hcap, hrow⟩ := h.own.row Itm.clen hy
  have hgb : g ≠ b := fun e => not_leaf h.own h.cell (by rw [e]; rfl)
  have hD : ∀ W, Below w.heap.size w W → DoAt W B b (some ⟨g, 0, none⟩) cap l := fun W hW => h.below hW
  have hP : ∀ W, Below w.heap.size w W → Calls Tryz.prog 107 #[.pointer (some ⟨b, 0, none⟩), .string k] W fun e w' => e = .returned (.tuple #[.int .i64 (lb l k), .bool true]) ∧ Below W.heap.size W w' := fun W hW => by
    have := place_any b cap (some ⟨g, 0, none⟩) l k W (hD W hW).c0 ((hD W hW).own.elems Itm.clen) hr (by omega)
    rw [hk] at this
    exact this
  have hA := fun W => msgApply_any ⟨kind, k, v⟩ (some y.val) W
  rw [ha, Mg.v_def] at hA
  dsimp only [strO, Option.getD, Option.isSome] at hA
  have HP := Lib.hid (hP _ (Below.alloc (Below.refl _ w) (Nat.le_refl _) (.cells #[.int .i64 kind, .string k, .string v] 90)))
  have HA := Lib.hid hA
  have HD := Lib.hid hD
  dsimp only at hy hk ⊢
  have hil := (List.getElem?_eq_some_iff.1 hy).1
  have hblt := h.lt
  generalize lb l k = i at *
  have hdl : ∀ W, Below w.heap.size w W → Calls Tryz.prog 119 #[.slice (some ⟨g, 0, none⟩) l.length cap, .int .i64 i, .int .i64 ((i : Int) + 1)] W
      fun e w' => e = .returned (.slice (some ⟨g, 0, none⟩) (l.length - 1) cap) ∧ OwnsM w' B (.slice (some ⟨g, 0, none⟩) (l.length - 1) cap) (l.eraseIdx i) ∧ Fr (fun k => k = g) W w' := fun W hW => delete_any B g cap i l W (hD W hW).own hil (by omega)
  have hiI : (i : Int) < (l.length : Int) := by omega
  have hd0 : ∀ W, Below w.heap.size w W → W.cell? ⟨b, 0, none⟩ = some (.slice (some ⟨g, 0, none⟩) l.length cap) := fun W hW => (hD W hW).c0
  have he1 : ∀ W, Below w.heap.size w W → W.cell? ⟨g, i * 2 + 1, none⟩ = some (.string y.val) := fun W hW => (hW.cell (p := ⟨g, _, none⟩) hglt).trans (hrow 1 _ rfl)
  have D0 := Lib.hid hd0
  have E1 := Lib.hid he1
  have DL := Lib.hid hdl
  clear hP hA hD hd0 he1 h hr hk ha hrow hy hcap hdl
  rw [Mg.v_def]
  obtain ⟨yk, yv⟩ := y
  dsimp only at E1 HA
  go_enter Tryz.func92, Tryz.ntmps92
  go_wp2_with (first | (go_at_call 107; (with_reducible refine HP.out.mono ?_); rintro e w1 ⟨rfl, hb1⟩; obtain ⟨c0, c1, c2⟩ := box3 hb1; have HB1 := Lib.hid (below_next (Below.alloc (Below.refl _ _) (Nat.le_refl _) _) hb1); clear hb1; have d0 := D0.out _ HB1.out; have d1 := E1.out _ HB1.out) | (go_at_call 117; (with_reducible refine (HA.out _).mono ?_); rintro e w2 ⟨rfl, hb2⟩; have c1' := (hb2.cell (p := ⟨w.heap.size, 1, none⟩) (World.block_lt_of_cell? _ _ c1)).trans c1; have HB2 := Lib.hid (below_alloc (o := .cells #[.string k, .string ⟨#[]⟩] 41) (below_next HB1.out hb2)); clear hb2 c0 c1 c2 d0 d1; have d0 := D0.out _ HB2.out) | (go_at_call 119; (with_reducible refine (DL.out _ HB2.out).mono ?_); rintro e w3 ⟨rfl, ho3, hf3⟩; have hrow3 := hf3.row (fun e => hgb e.symm) (HD.out _ HB2.out).cell; have d3 : w3.cell? ⟨b, 0, none⟩ = some (.slice (some ⟨g, 0, none⟩) l.length cap) := (by rw [Lib.cell_of_heap hrow3]; rfl); have f3 := Lib.frozen_of_heap hrow3 0; have HF3 := Lib.hid ((Fr.of_below HB2.out).tr (S := fun q => q = b ∨ q = g) (hf3.mono (fun q _ e => .inr e))); have HO3 := Lib.hid ho3; have HR3 := Lib.hid hrow3; clear ho3 hf3 hrow3 d0 HB2 c1'))
  go_end0
  have hE := erase_len l i hil
  have HO4 := HO3.out
  rw [← hE] at HO4 ⊢
  exact do_store HR3.out HO4 HF3.out (fun q _ e => e.imp id (fun e => by subst e; rfl))
set_option maxHeartbeats 1000000 in
set_option maxRecDepth 100000 in
theorem do_ins (B b cap : Nat) (A : Option Addr) (l : List Itm) (x : Mg) (u : ByteArray) (w : World) (h : DoAt w B b A cap l) (hBw : B ≤ w.heap.size) (hr : Rises l) (hl : l.length ≤ 80000) (hk : hasK l x.key = false) (ha : applyO x none = some u) :
    Calls Tryz.prog 92 #[.pointer (some ⟨b, 0, none⟩), x.v] w (DoRes B b A w l.length cap (l.insertIdx (lb l x.key) ⟨x.key, u⟩)) := by
  obtain ⟨kind, k, v⟩ := x
  have hD : ∀ W, Below w.heap.size w W → DoAt W B b A cap l := fun W hW => h.below hW
  have hP : ∀ W, Below w.heap.size w W → Calls Tryz.prog 107 #[.pointer (some ⟨b, 0, none⟩), .string k] W fun e w' => e = .returned (.tuple #[.int .i64 (lb l k), .bool false]) ∧ Below W.heap.size W w' := fun W hW => by
    have := place_any b cap A l k W (hD W hW).c0 ((hD W hW).own.elems Itm.clen) hr (by omega)
    rw [hk] at this
    exact this
  have hA := fun W => msgApply_any ⟨kind, k, v⟩ none W
  rw [ha, Mg.v_def] at hA
  dsimp only [strO, Option.getD, Option.isSome] at hA
  have HP := Lib.hid (hP _ (Below.alloc (Below.refl _ w) (Nat.le_refl _) (.cells #[.int .i64 kind, .string k, .string v] 90)))
  have HA := Lib.hid hA
  have HD := Lib.hid hD
  dsimp only at hk ⊢
  have hblt := h.lt
  have hil := lb_le l k
  generalize lb l k = i at *
  have hio := insertIdx_len ⟨k, u⟩ l i hil
  have hoq : ∀ q, (Value.slice A l.length cap).ownBlock = some q → q < w.heap.size := fun q e => by
    rcases h.own.2 with ⟨he, _⟩ | ⟨g, cap', cur, he, _, hgg, _⟩
    · rw [he] at e; cases e
    · rw [he] at e
      simp only [Value.ownBlock, Option.some.injEq] at e
      subst e
      exact lt_of_row hgg
  have hin : ∀ W vb T, Below w.heap.size w W → w.heap.size ≤ vb → ItmAt W vb ⟨k, u⟩ T → Calls Tryz.prog 118 #[.slice A l.length cap, .int .i64 i, .slice (some ⟨vb, 0, none⟩) 1 1] W
      fun e w' => ∃ A' cap', e = .returned (.slice A' (l.length + 1) cap') ∧ OwnsM w' B (.slice A' (l.length + 1) cap') (l.insertIdx i ⟨k, u⟩) ∧ Fr (fun k => (Value.slice A l.length cap).ownBlock = some k) W w' := fun W vb T hW hvb hx =>
    insert_any B vb cap 1 i A l ⟨k, u⟩ T W (hD W hW).own (Nat.le_trans hBw hW.size) hx (fun e => by have := hoq _ e; omega) hil (by omega)
  have hbn : (Value.slice A l.length cap).ownBlock ≠ some b := not_leaf h.own h.cell
  have hd0 : ∀ W, Below w.heap.size w W → W.cell? ⟨b, 0, none⟩ = some (.slice A l.length cap) := fun W hW => (hD W hW).c0
  have D0 := Lib.hid hd0
  have IN := Lib.hid hin
  have HIO := Lib.hid hio
  have HBN := Lib.hid hbn
  have HOQ := Lib.hid hoq
  clear hP hA hD hd0 h hr hk ha hin hio hbn hoq
  rw [Mg.v_def]
  go_enter Tryz.func92, Tryz.ntmps92
  go_wp2_with (first | (go_at_call 107; (with_reducible refine HP.out.mono ?_); rintro e w1 ⟨rfl, hb1⟩; obtain ⟨c0, c1, c2⟩ := box3 hb1; have HB1 := Lib.hid (below_next (Below.alloc (Below.refl _ _) (Nat.le_refl _) _) hb1); clear hb1) | (go_at_call 117; (with_reducible refine (HA.out _).mono ?_); rintro e w2 ⟨rfl, hb2⟩; have c1' := (hb2.cell (p := ⟨w.heap.size, 1, none⟩) (World.block_lt_of_cell? _ _ c1)).trans c1; have HB2 := Lib.hid (below_next HB1.out hb2); clear hb2 c0 c1 c2))
  have hb3 : Below w.heap.size w (w2.alloc (.cells #[.string k, .string u] 41)) := below_alloc HB2.out
  have x0 : (w2.alloc (.cells #[.string k, .string u] 41)).cell? ⟨w2.heap.size, 0, none⟩ = some (.string k) := by rw [Lib.cell_of_heap (heap_alloc_new w2 _)]; rfl
  have x1 : (w2.alloc (.cells #[.string k, .string u] 41)).cell? ⟨w2.heap.size, 1, none⟩ = some (.string u) := by rw [Lib.cell_of_heap (heap_alloc_new w2 _)]; rfl
  have hxl : w2.heap.size < (w2.alloc (.cells #[.string k, .string u] 41)).heap.size := by simp
  have hxw : w.heap.size ≤ w2.heap.size := HB2.out.size
  clear c1' HB2
  generalize w2.alloc (.cells #[.string k, .string u] 41) = W3 at *
  generalize w2.heap.size = xb at *
  have d0 := D0.out _ hb3
  have hb3l : b < W3.heap.size := World.block_lt_of_cell? _ _ d0
  have HB3 := Lib.hid hb3
  clear hb3
  have HB4 : Hid (Below w.heap.size w ((W3.alloc (.cells #[.string k, .string u] 41)).drew)) := Lib.hid (below_alloc HB3.out).drew
  have HIX : Hid (ItmAt ((W3.alloc (.cells #[.string k, .string u] 41)).drew) W3.heap.size ⟨k, u⟩ 41) := Lib.hid (heap_alloc_new W3 _)
  have hid : (W3.alloc (.cells #[.string k, .string u] 41)).drew.cell? ⟨b, 0, none⟩ = some (.slice A l.length cap) := keep_cell_alloc hb3l d0
  refine rg_start (n := 12) (fun w' => w'.cell? ⟨xb, 0, none⟩ = some (.string k) ∧ w'.cell? ⟨xb, 1, none⟩ = some (.string u) ∧ xb < w'.heap.size) #[false, false, false, false, false, false, false, false, false, false, false, false] (by kernel_rfl) rfl rfl ⟨x0, x1, hxl⟩ (fun hHeld => ?_)
  refine rg_take (i := 0) (N := (some 51)) (v := ?_) (a' := ?_) #[true, false, false, false, false, false, false, false, false, false, false, false] rfl rfl (by kernel_rfl) (fun _ _ _ h => h) (by rfl) ?_ hHeld ?_ ?_
  rotate_left 2
  · rintro w' ⟨s0, s1, s2⟩
    go_simp
    try with_reducible rfl
  · simp only [Act.put, List.setIfInBounds_toArray, List.set_cons_zero, List.set_cons_succ]
    rfl
  refine rg_take (i := 1) (N := (some 52)) (v := ?_) (a' := ?_) #[true, true, false, false, false, false, false, false, false, false, false, false] rfl rfl (by kernel_rfl) (fun _ _ _ h => h) (by rfl) ?_ hHeld ?_ ?_
  rotate_left 2
  · rintro w' ⟨s0, s1, s2⟩
    go_simp
    try with_reducible rfl
  · simp only [Act.put, List.setIfInBounds_toArray, List.set_cons_zero, List.set_cons_succ]
    rfl
  refine rg_take (i := 2) (N := (some 53)) (v := ?_) (a' := ?_) #[true, true, true, false, false, false, false, false, false, false, false, false] rfl rfl (by kernel_rfl) (fun _ _ _ h => h) (by rfl) ?_ hHeld ?_ ?_
  rotate_left 2
  · rintro w' ⟨s0, s1, s2⟩
    go_simp
    try with_reducible rfl
  · simp only [Act.put, List.setIfInBounds_toArray, List.set_cons_zero, List.set_cons_succ]
    rfl
  refine rg_take (i := 3) (N := (some 54)) (v := ?_) (a' := ?_) #[true, true, true, true, false, false, false, false, false, false, false, false] rfl rfl (by kernel_rfl) (fun _ _ _ h => h) (by rfl) ?_ hHeld ?_ ?_
  rotate_left 2
  · rintro w' ⟨s0, s1, s2⟩
    go_simp
    try with_reducible rfl
  · simp only [Act.put, List.setIfInBounds_toArray, List.set_cons_zero, List.set_cons_succ]
    rfl
  refine rg_take (i := 5) (N := (some 56)) (v := ?_) (a' := ?_) #[true, true, true, true, false, true, false, false, false, false, false, false] rfl rfl (by kernel_rfl) (fun _ _ _ h => h) (by rfl) ?_ hHeld ?_ ?_
  rotate_left 2
  · rintro w' ⟨s0, s1, s2⟩
    go_simp
    try with_reducible rfl
  · simp only [Act.put, List.setIfInBounds_toArray, List.set_cons_zero, List.set_cons_succ]
    rfl
  refine rg_take (i := 6) (N := (some 57)) (v := ?_) (a' := ?_) #[true, true, true, true, false, true, true, false, false, false, false, false] rfl rfl (by kernel_rfl) (fun _ _ _ h => h) (by rfl) ?_ hHeld ?_ ?_
  rotate_left 2
  · rintro w' ⟨s0, s1, s2⟩
    go_simp
    try with_reducible rfl
  · simp only [Act.put, List.setIfInBounds_toArray, List.set_cons_zero, List.set_cons_succ]
    rfl
  refine rg_two (i := 4) (j := 7) #[true, true, true, true, true, true, true, false, false, false, false, false] #[true, true, true, true, false, true, true, true, false, false, false, false] rfl rfl (by kernel_rfl) (by rfl) (by rfl) (fun K hK => ?_) (fun K hK => ?_)
  · skip
    obtain ⟨s0, s1, s2⟩ := hHeld
    repeat go_step
    (skip)
    try dsimp only
    refine hK.out _ _ ?_ (fun hHeld => ?_)
    · exact ⟨s0, s1, s2⟩
    clear hK K
    clear s0 s1 s2
    refine rg_one (i := 7) #[true, true, true, true, true, true, true, true, false, false, false, false] rfl (by kernel_rfl) (by rfl) (fun K hK => ?_)
    obtain ⟨s0, s1, s2⟩ := hHeld
    repeat go_step
    refine hK.out _ _ ?_ (fun hHeld => ?_)
    · exact ⟨keep_cell_alloc s2 s0, keep_cell_alloc s2 s1, keep_lt_alloc s2⟩
    clear hK K
    clear s0 s1 s2
    refine rg_one (i := 8) #[true, true, true, true, true, true, true, true, true, false, false, false] rfl (by kernel_rfl) (by rfl) (fun K hK => ?_)
    obtain ⟨s0, s1, s2⟩ := hHeld
    repeat go_step
    ((with_reducible refine (IN.out _ W3.heap.size 41 HB4.out HB3.out.size HIX.out).mono ?_); rintro e w5 ⟨A5, c5, rfl, ho5, hf5⟩; have hrow5 := hf5.row HBN.out (HD.out _ (below_alloc (o := .cells #[.string k, .string u] 41) HB3.out).drew).cell; have d5 : w5.cell? ⟨b, 0, none⟩ = some (.slice A l.length cap) := (by rw [Lib.cell_of_heap hrow5]; rfl); have f5 := Lib.frozen_of_heap hrow5 0; have s0' := hf5.cell s2 (fun e => by have := HOQ.out _ e; omega) s0; have s1' := hf5.cell s2 (fun e => by have := HOQ.out _ e; omega) s1; have s2' := Nat.lt_of_lt_of_le s2 hf5.size; have HF5 := Lib.hid ((Fr.of_below (below_alloc (o := .cells #[.string k, .string u] 41) HB3.out).drew).tr (S := fun q => (Value.slice A l.length cap).ownBlock = some q) hf5); have HO5 := Lib.hid ho5; have HR5 := Lib.hid hrow5; clear ho5 hf5 hrow5)
    try dsimp only
    refine hK.out _ _ ?_ (fun hHeld => ?_)
    · exact ⟨s0', s1', s2'⟩
    clear hK K
    clear s0 s1 s2
    refine rg_take (i := 9) (N := (some 60)) (v := ?_) (a' := ?_) #[true, true, true, true, true, true, true, true, true, true, false, false] rfl rfl (by kernel_rfl) (fun _ _ _ h => h) (by rfl) ?_ hHeld ?_ ?_
    rotate_left 2
    · rintro w' ⟨s0, s1, s2⟩
      go_simp
      try with_reducible rfl
    · simp only [Act.put, List.setIfInBounds_toArray, List.set_cons_zero, List.set_cons_succ]
      rfl
    refine rg_take (i := 10) (N := (some 61)) (v := ?_) (a' := ?_) #[true, true, true, true, true, true, true, true, true, true, true, false] rfl rfl (by kernel_rfl) (fun _ _ _ h => h) (by rfl) ?_ hHeld ?_ ?_
    rotate_left 2
    · rintro w' ⟨s0, s1, s2⟩
      go_simp
      try with_reducible rfl
    · simp only [Act.put, List.setIfInBounds_toArray, List.set_cons_zero, List.set_cons_succ]
      rfl
    refine rg_one (i := 11) #[true, true, true, true, true, true, true, true, true, true, true, true] rfl (by kernel_rfl) (by rfl) (fun K hK => ?_)
    obtain ⟨s0, s1, s2⟩ := hHeld
    repeat go_step
    refine hK.out _ _ ?_ (fun hHeld => ?_)
    · have hfs : Fr (fun q => q = b) w5 _ := (Fr.refl (fun q => q = b) w5).setCell (p := ⟨b, 0, none⟩) (fun _ => rfl) (.slice A5 (l.length + 1) c5); exact ⟨hfs.cell s2 (by omega) s0, hfs.cell s2 (by omega) s1, Nat.lt_of_lt_of_le s2 hfs.size⟩
    clear hK K
    clear s0 s1 s2
    refine rg_done (by kernel_rfl) ?_
    go_end0
    have HO6 := HO5.out
    rw [← HIO.out] at HO6 ⊢
    exact do_store HR5.out HO6 HF5.out (fun q _ e => .inr e)
  · skip
    obtain ⟨s0, s1, s2⟩ := hHeld
    repeat go_step
    refine hK.out _ _ ?_ (fun hHeld => ?_)
    · exact ⟨keep_cell_alloc s2 s0, keep_cell_alloc s2 s1, keep_lt_alloc s2⟩
    clear hK K
    clear s0 s1 s2
    refine rg_one (i := 4) #[true, true, true, true, true, true, true, true, false, false, false, false] rfl (by kernel_rfl) (by rfl) (fun K hK => ?_)
    obtain ⟨s0, s1, s2⟩ := hHeld
    repeat go_step
    (skip)
    try dsimp only
    refine hK.out _ _ ?_ (fun hHeld => ?_)
    · exact ⟨s0, s1, s2⟩
    clear hK K
    clear s0 s1 s2
    refine rg_one (i := 8) #[true, true, true, true, true, true, true, true, true, false, false, false] rfl (by kernel_rfl) (by rfl) (fun K hK => ?_)
    obtain ⟨s0, s1, s2⟩ := hHeld
    repeat go_step
    ((with_reducible refine (IN.out _ W3.heap.size 41 HB4.out HB3.out.size HIX.out).mono ?_); rintro e w5 ⟨A5, c5, rfl, ho5, hf5⟩; have hrow5 := hf5.row HBN.out (HD.out _ (below_alloc (o := .cells #[.string k, .string u] 41) HB3.out).drew).cell; have d5 : w5.cell? ⟨b, 0, none⟩ = some (.slice A l.length cap) := (by rw [Lib.cell_of_heap hrow5]; rfl); have f5 := Lib.frozen_of_heap hrow5 0; have s0' := hf5.cell s2 (fun e => by have := HOQ.out _ e; omega) s0; have s1' := hf5.cell s2 (fun e => by have := HOQ.out _ e; omega) s1; have s2' := Nat.lt_of_lt_of_le s2 hf5.size; have HF5 := Lib.hid ((Fr.of_below (below_alloc (o := .cells #[.string k, .string u] 41) HB3.out).drew).tr (S := fun q => (Value.slice A l.length cap).ownBlock = some q) hf5); have HO5 := Lib.hid ho5; have HR5 := Lib.hid hrow5; clear ho5 hf5 hrow5)
    try dsimp only
    refine hK.out _ _ ?_ (fun hHeld => ?_)
    · exact ⟨s0', s1', s2'⟩
    clear hK K
    clear s0 s1 s2
    refine rg_take (i := 9) (N := (some 60)) (v := ?_) (a' := ?_) #[true, true, true, true, true, true, true, true, true, true, false, false] rfl rfl (by kernel_rfl) (fun _ _ _ h => h) (by rfl) ?_ hHeld ?_ ?_
    rotate_left 2
    · rintro w' ⟨s0, s1, s2⟩
      go_simp
      try with_reducible rfl
    · simp only [Act.put, List.setIfInBounds_toArray, List.set_cons_zero, List.set_cons_succ]
      rfl
    refine rg_take (i := 10) (N := (some 61)) (v := ?_) (a' := ?_) #[true, true, true, true, true, true, true, true, true, true, true, false] rfl rfl (by kernel_rfl) (fun _ _ _ h => h) (by rfl) ?_ hHeld ?_ ?_
    rotate_left 2
    · rintro w' ⟨s0, s1, s2⟩
      go_simp
      try with_reducible rfl
    · simp only [Act.put, List.setIfInBounds_toArray, List.set_cons_zero, List.set_cons_succ]
      rfl
    refine rg_one (i := 11) #[true, true, true, true, true, true, true, true, true, true, true, true] rfl (by kernel_rfl) (by rfl) (fun K hK => ?_)
    obtain ⟨s0, s1, s2⟩ := hHeld
    repeat go_step
    refine hK.out _ _ ?_ (fun hHeld => ?_)
    · have hfs : Fr (fun q => q = b) w5 _ := (Fr.refl (fun q => q = b) w5).setCell (p := ⟨b, 0, none⟩) (fun _ => rfl) (.slice A5 (l.length + 1) c5); exact ⟨hfs.cell s2 (by omega) s0, hfs.cell s2 (by omega) s1, Nat.lt_of_lt_of_le s2 hfs.size⟩
    clear hK K
    clear s0 s1 s2
    refine rg_done (by kernel_rfl) ?_
    go_end0
    have HO6 := HO5.out
    rw [← HIO.out] at HO6 ⊢
    exact do_store HR5.out HO6 HF5.out (fun q _ e => .inr e)
theorem do_any (B b cap : Nat) (A : Option Addr) (l : List Itm) (x : Mg) (w : World) (h : DoAt w B b A cap l) (hBw : B ≤ w.heap.size) (hr : Rises l) (hl : l.length ≤ 80000) :
    Calls Tryz.prog 92 #[.pointer (some ⟨b, 0, none⟩), x.v] w (DoRes B b A w l.length cap (doL l x)) := by
  have hg := hasK_get x.key hr
  have hf := find_get x.key hr
  cases hk : hasK l x.key with
  | false =>
    rw [hk] at hg
    have hn : getL l x.key = none := by
      cases h : getL l x.key
      · rfl
      · rw [h] at hg; cases hg
    unfold doL
    rw [hn]
    cases ha : applyO x none with
    | none =>
      show Calls Tryz.prog 92 _ w (DoRes B b A w l.length cap (delR x.key l))
      rw [del_none x.key hr hk]
      exact do_none B b cap A l x w h hr hl hk ha
    | some u =>
      show Calls Tryz.prog 92 _ w (DoRes B b A w l.length cap (insR x.key u l))
      rw [← insert_ins x.key u hr hk]
      exact do_ins B b cap A l x u w h hBw hr hl hk ha
  | true =>
    unfold findV at hf
    rw [hk, if_pos rfl] at hf
    rw [hk] at hg
    cases hy : l[lb l x.key]? with
    | none =>
      rw [hy] at hf
      rw [← hf] at hg
      cases hg
    | some y =>
      rw [hy, Option.map_some] at hf
      unfold doL
      rw [← hf]
      cases ha : applyO x (some y.val) with
      | none =>
        show Calls Tryz.prog 92 _ w (DoRes B b A w l.length cap (delR x.key l))
        rw [← erase_del x.key hr hk]
        exact do_del B b cap A l x w h hr hl y hk hy ha
      | some u =>
        show Calls Tryz.prog 92 _ w (DoRes B b A w l.length cap (insR x.key u l))
        rw [← set_ins x.key u hr hk]
        exact do_set B b cap A l x u w h hr hl y hk hy ha
end Go.Proofs.YtdfgdnaejnngoaaGreat
namespace Go.Proofs.YtdfgdnaejnngoaaGreat
open Go.RowKit
/-! leaf.With: what messages make of a leaf. -/
def doAll (l : List Itm) (ms : List Mg) : List Itm := ms.foldl doL l
theorem rises_all : ∀ (ms : List Mg) {l : List Itm}, Rises l → Rises (doAll l ms)
  | [], _, h => h
  | m :: ms, _, h => rises_all ms (rises_do h m)
theorem oks_all : ∀ (ms : List Mg) {l : List Itm}, (∀ y ∈ l, y.ok) → (∀ m ∈ ms, isMsg m = true) → ∀ y ∈ doAll l ms, y.ok
  | [], _, h, _ => h
  | m :: ms, _, h, hm => oks_all ms (oks_do h (hm m (by simp))) (fun x hx => hm x (by simp [hx]))
theorem len_all : ∀ (ms : List Mg) {l : List Itm}, Rises l → (doAll l ms).length ≤ l.length + ms.length
  | [], _, _ => Nat.le_refl _
  | m :: ms, l, h => by
    have h1 := len_all ms (rises_do h m)
    have h2 := put_len h m.key (applyO m (getL l m.key))
    show (doAll (doL l m) ms).length ≤ _
    unfold doL at h1 ⊢
    rw [List.length_cons]
    omega
theorem all_snoc (l : List Itm) (ms : List Mg) (k : Nat) (x : Mg) (h : ms[k]? = some x) : doAll l (ms.take (k + 1)) = doL (doAll l (ms.take k)) x := by
  unfold doAll
  rw [List.take_add_one, h, Option.toList_some, List.foldl_append]
  rfl
theorem Mg.clen (x : Mg) : x.cells.length = 3 := rfl
theorem mg_row {w : World} {Am : Option Addr} {ms : List Mg} (hm : Elems w Am 3 (ms.map Mg.cells)) {k : Nat} {x : Mg} (hx : ms[k]? = some x) : ∃ b off, Am = some ⟨b, off, none⟩ ∧ b < w.heap.size ∧ w.cell? ⟨b, off + k * 3, none⟩ = some (.int .i64 x.kind) ∧ w.cell? ⟨b, off + k * 3 + 1, none⟩ = some (.string x.key) ∧ w.cell? ⟨b, off + k * 3 + 2, none⟩ = some (.string x.val) := by
  obtain ⟨b, off, e, hlt, hc⟩ := hm k x.cells (by simp [hx])
  exact ⟨b, off, e, hlt, hc 0 _ rfl, hc 1 _ rfl, hc 2 _ rfl⟩
set_option maxHeartbeats 1000000 in
set_option maxRecDepth 100000 in
theorem with_bad (b cap c : Nat) (A Am : Option Addr) (l : List Itm) (ms : List Mg) (w : World) (hm : Elems w Am 3 (ms.map Mg.cells)) (hn : ms.length ≤ 1000) (hbad : ms.all isMsg = false) :
    Calls Tryz.prog 58 #[.pointer (some ⟨b, 0, none⟩), .slice Am ms.length c] w fun e w' => e = .returned (.tuple #[.pointer none, .int .i64 1]) ∧ Below w.heap.size w w' := by
  have HM := Lib.hid hm
  have HB := Lib.hid hbad
  have HI := Lib.hid (fun x W => msgIs_any x W)
  clear hm hbad
  go_enter Tryz.func58, Tryz.ntmps58
  go_wp2
  go_loopw [16, 7] (fun i _ wr => ∃ k : Nat, i = .int .i64 k ∧ k ≤ ms.length ∧ (∀ j x, j < k → ms[j]? = some x → isMsg x = true) ∧ Below w.heap.size w wr) (fun i _ _ => ms.length + 1 - (intOf i).toNat)
  case atStart => exact ⟨0, rfl, Nat.zero_le _, fun j x hj => by omega, (by repeat (first | assumption | exact Below.refl _ _ | (refine below_step (w := ?_) ?_ ?_ ?_; rotate_left 2; assumption) | refine Below.drew ?_ | refine below_drewN ?_ _ | refine Below.alloc ?_ ?_ _ | refine Below.setCell ?_ ?_ _ | (focus (simp; done)) | (focus (simp; omega)) | omega))⟩
  case round =>
    obtain ⟨k, rfl, hk, hok, hbel⟩ := hrel
    by_cases hkl : k < ms.length
    · have hkI : (k : Int) < (ms.length : Int) := by omega
      obtain ⟨x, hx⟩ := get_lt hkl
      obtain ⟨bm, off, rfl, hblt, d0, d1, d2⟩ := mg_row (HM.out.below hbel) hx
      have HOK := Lib.hid hok
      have HX := Lib.hid hx
      clear hok hx
      have hI := fun W => HI.out x W
      obtain ⟨kind, xk, xv⟩ := x
      dsimp only at d0 d1 d2
      rw [Mg.v_def] at hI
      dsimp only at hI
      generalize hq : isMsg ⟨kind, xk, xv⟩ = q at hI
      have HQ := Lib.hid hq
      have HI2 := Lib.hid hI
      clear hq hI
      cases q
      · go_wp2_with (go_at_call 91; (with_reducible refine (HI2.out _).mono ?_); rintro e w1 ⟨rfl, hb1⟩)
        (try simp only [Exit.inBlock, Exit.then])
        refine bodyPost_ret (results_tmp2 rfl _ _ _) rfl ⟨rfl, below_next (below_alloc hbel) hb1⟩
      · go_wp2_with (go_at_call 91; (with_reducible refine (HI2.out _).mono ?_); rintro e w1 ⟨rfl, hb1⟩; have HB1 := Lib.hid (below_next (below_alloc hbel) hb1); clear hb1)
        refine ⟨⟨k + 1, by go_num, by omega, ?_, HB1.out⟩, ?_⟩
        · intro j y hj hy
          by_cases e : j = k
          · subst e
            rw [HX.out] at hy
            cases hy
            exact HQ.out
          · exact HOK.out j y (by omega) hy
        · simp [intOf]
          omega
    · exfalso
      have := HB.out
      rw [List.all_eq_false] at this
      obtain ⟨x, hx, hxb⟩ := this
      obtain ⟨j, hj⟩ := List.getElem?_of_mem hx
      exact hxb (hok j x (by have := (List.getElem?_eq_some_iff.1 hj).1; omega) hj)
set_option maxHeartbeats 1000000 in
set_option maxRecDepth 100000 in
theorem with_ok (b cap c : Nat) (A Am : Option Addr) (l : List Itm) (ms : List Mg) (w : World) (h : LeafAt w b A cap l) (hl : l.length ≤ 70000) (hm : Elems w Am 3 (ms.map Mg.cells)) (hn : ms.length ≤ 1000) (hgood : ∀ m ∈ ms, isMsg m = true) :
    Calls Tryz.prog 58 #[.pointer (some ⟨b, 0, none⟩), .slice Am ms.length c] w fun e w' => ∃ b' A' cap', e = .returned (.tuple #[.pointer (some ⟨b', 0, none⟩), .int .i64 0]) ∧ LeafAt w' b' A' cap' (doAll l ms) ∧ w.heap.size ≤ b' ∧ (∀ ad, A' = some ad → w.heap.size ≤ ad.block) ∧ Below w.heap.size w w' := by
  have HM := Lib.hid hm
  have HG := Lib.hid hgood
  have HL := Lib.hid h
  have HI := Lib.hid (fun x W => msgIs_any x W)
  clear hm hgood h
  go_enter Tryz.func58, Tryz.ntmps58
  go_wp2
  go_loopw [16, 7] (fun i _ wr => ∃ k : Nat, i = .int .i64 k ∧ k ≤ ms.length ∧ Below w.heap.size w wr) (fun i _ _ => ms.length + 1 - (intOf i).toNat)
  case atStart => exact ⟨0, rfl, Nat.zero_le _, (by repeat (first | assumption | exact Below.refl _ _ | (refine below_step (w := ?_) ?_ ?_ ?_; rotate_left 2; assumption) | refine Below.drew ?_ | refine below_drewN ?_ _ | refine Below.alloc ?_ ?_ _ | refine Below.setCell ?_ ?_ _ | (focus (simp; done)) | (focus (simp; omega)) | omega))⟩
  case round =>
    obtain ⟨k, rfl, hk, hbel⟩ := hrel
    by_cases hkl : k < ms.length
    · have hkI : (k : Int) < (ms.length : Int) := by omega
      obtain ⟨x, hx⟩ := get_lt hkl
      obtain ⟨bm, off, rfl, hblt, d0, d1, d2⟩ := mg_row (HM.out.below hbel) hx
      have hI := fun W => HI.out x W
      rw [HG.out x (List.mem_of_getElem? hx)] at hI
      clear hx
      obtain ⟨kind, xk, xv⟩ := x
      dsimp only at d0 d1 d2
      rw [Mg.v_def] at hI
      have HI2 := Lib.hid hI
      clear hI
      go_wp2_with (go_at_call 91; (with_reducible refine (HI2.out _).mono ?_); rintro e w1 ⟨rfl, hb1⟩; have HB1 := Lib.hid (below_next (below_alloc hbel) hb1); clear hb1)
      refine ⟨⟨k + 1, by go_num, by omega, HB1.out⟩, ?_⟩
      simp [intOf]
      omega
    · obtain rfl : k = ms.length := by omega
      have hit := items_any b cap A l wr (HL.out.below hbel) (by omega)
      have HIT := Lib.hid hit
      have HB0 := Lib.hid hbel
      clear hit hbel
      go_wp2_with (go_at_call 54; (with_reducible refine HIT.out.mono ?_); rintro e w1 ⟨A1, c1, rfl, ho1, hb1⟩; have HO1 := Lib.hid ho1; have HB1 := Lib.hid (below_next HB0.out hb1); clear hb1 ho1)
      have hdo : DoAt (w1.alloc (.cells #[.slice A1 l.length c1, .int .i64 0] 139)) w.heap.size w1.heap.size A1 c1 (doAll l (ms.take 0)) := ⟨heap_alloc_new w1 _, (HO1.out.alloc _).base HB0.out.size⟩
      have hbel2 : Below w.heap.size w (w1.alloc (.cells #[.slice A1 l.length c1, .int .i64 0] 139)) := below_alloc HB1.out
      have hob : w.heap.size ≤ w1.heap.size := HB1.out.size
      have HDO := Lib.hid hdo
      have HBL2 := Lib.hid hbel2
      clear hdo hbel2 HO1
      generalize w1.alloc (.cells #[.slice A1 l.length c1, .int .i64 0] 139) = W2 at *
      generalize w1.heap.size = ob at *
      go_loopw [32, 11] (fun i _ wr2 => ∃ (k : Nat) (A2 : Option Addr) (c2 : Nat), i = .int .i64 k ∧ k ≤ ms.length ∧ DoAt wr2 w.heap.size ob A2 c2 (doAll l (ms.take k)) ∧ Below w.heap.size w wr2) (fun i _ _ => ms.length + 1 - (intOf i).toNat)
      case atStart => exact ⟨0, A1, c1, rfl, Nat.zero_le _, HDO.out, HBL2.out⟩
      case round =>
        obtain ⟨j, A2, c2, rfl, hj, hdo, hbel⟩ := hrel
        have hlen : (doAll l (ms.take j)).length ≤ 71000 := by
          have := len_all (ms.take j) HL.out.rises
          rw [List.length_take] at this
          omega
        have hri : Rises (doAll l (ms.take j)) := rises_all _ HL.out.rises
        by_cases hjl : j < ms.length
        · have hjI : (j : Int) < (ms.length : Int) := by omega
          obtain ⟨x, hx⟩ := get_lt hjl
          obtain ⟨bm, off, rfl, hblt, d0, d1, d2⟩ := mg_row (HM.out.below hbel) hx
          have hsn := all_snoc l ms j x hx
          have hcall : ∀ W, Below wr.heap.size wr W → Calls Tryz.prog 92 #[.pointer (some ⟨ob, 0, none⟩), x.v] W (DoRes w.heap.size ob A2 W (doAll l (ms.take j)).length c2 (doL (doAll l (ms.take j)) x)) := fun W hW =>
            do_any w.heap.size ob c2 A2 _ x W (hdo.below hW) (Nat.le_trans hbel.size hW.size) hri (by omega)
          rw [← hsn] at hcall
          have hown : ∀ q, (Value.slice A2 (doAll l (ms.take j)).length c2).ownBlock = some q → w.heap.size ≤ q := fun q e => by
            rcases hdo.own.2 with ⟨he, _⟩ | ⟨g, cap', cur, he, hb, hgg, _⟩
            · rw [he] at e; cases e
            · rw [he] at e
              simp only [Value.ownBlock, Option.some.injEq] at e
              omega
          have HC := Lib.hid (hcall _ (Below.alloc (Below.refl _ wr) (Nat.le_refl _) (.cells #[.int .i64 x.kind, .string x.key, .string x.val] 90)))
          have HOW := Lib.hid hown
          have HBL3 := Lib.hid hbel
          clear hcall hown hbel hsn hx hdo hri
          obtain ⟨kind, xk, xv⟩ := x
          dsimp only at d0 d1 d2 HC
          rw [Mg.v_def] at HC
          dsimp only at HC
          generalize hL2 : doAll l (ms.take (j + 1)) = L2 at HC
          have HL2 := Lib.hid hL2
          clear hL2
          generalize doAll l (ms.take j) = L1 at *
          go_wp2_with (go_at_call 92; (with_reducible refine HC.out.mono ?_); rintro e w3 ⟨rfl, A3, c3, hd3, hf3⟩; have HD3 := Lib.hid hd3; have HB3 := Lib.hid ((below_alloc (o := .cells #[.int .i64 kind, .string xk, .string xv] 90) HBL3.out).trans (hf3.to_below (B := w.heap.size) (Nat.le_trans HBL3.out.size (by simp)) (fun q hq e => by rcases e with e | e; omega; have := HOW.out q e; omega))); clear hd3 hf3)
          refine ⟨⟨j + 1, A3, c3, by go_num, by omega, by rw [HL2.out]; exact HD3.out, HB3.out⟩, ?_⟩
          simp [intOf]
          omega
        · obtain rfl : j = ms.length := by omega
          rw [List.take_length] at hdo hlen hri
          have hok := oks_all ms HL.out.oks HG.out
          have hnil : A2 = none → c2 = 0 := by
            intro e
            subst e
            rcases hdo.own.2 with ⟨he, _⟩ | ⟨g, cap', cur, he, _⟩
            · simp at he; exact he.2
            · simp at he
          have hfr : ∀ ad, A2 = some ad → w.heap.size ≤ ad.block := by
            rintro ad rfl
            rcases hdo.own.2 with ⟨he, _⟩ | ⟨g, cap', cur, he, hb, _⟩
            · simp at he
            · simp at he
              rw [he.1]
              exact hb
          have hma := made_any A2 c2 (doAll l ms) wr (hdo.own.elems Itm.clen) hri hok hnil (by omega)
          have c0 := hdo.c0
          have HMA := Lib.hid hma
          have HFR := Lib.hid hfr
          clear hfr
          have HBL3 := Lib.hid hbel
          clear hma hbel hdo hri hok hnil
          generalize hL1 : doAll l ms = L1 at *
          have HL1 := Lib.hid hL1
          clear hL1
          go_wp2_with (go_at_call 89; (with_reducible refine HMA.out.mono ?_); rintro e w3 ⟨b3, rfl, hla, hle, hb3⟩)
          (try simp only [Exit.inBlock, Exit.then])
          refine bodyPost_ret (results_tmp2 rfl _ _ _) rfl ⟨b3, A2, c2, rfl, by rw [HL1.out]; exact hla, Nat.le_trans HBL3.out.size hle, HFR.out, below_next HBL3.out hb3⟩
end Go.Proofs.YtdfgdnaejnngoaaGreat
namespace Go.Proofs.YtdfgdnaejnngoaaGreat
open Go.RowKit
attribute [local go_sem] Oper.semAt_some
/-! slices.Values, AppendSeq, Collect over items. -/
def VI (n₀ : Nat) (W : World) (A : Option Addr) (zs : List Itm) : Prop :=
  ∀ (i : Nat) (x : Itm), zs[i]? = some x → ∃ b off, A = some ⟨b, off, none⟩ ∧ b < n₀ ∧ W.cell? ⟨b, off + i * 2, none⟩ = some (.string x.key) ∧ W.cell? ⟨b, off + i * 2 + 1, none⟩ = some (.string x.val)
theorem VI.below {n₀ : Nat} {a b : World} {A : Option Addr} {zs : List Itm} (h : VI n₀ a A zs) (hb : Below n₀ a b) : VI n₀ b A zs := by
  intro i x hx
  obtain ⟨g, off, e, hg, h0, h1⟩ := h i x hx
  exact ⟨g, off, e, hg, (hb.cell (p := ⟨g, _, none⟩) hg).trans h0, (hb.cell (p := ⟨g, _, none⟩) hg).trans h1⟩
theorem VI.of {w : World} {A : Option Addr} {zs : List Itm} (h : Elems w A 2 (zs.map Itm.cells)) : VI w.heap.size w A zs := by
  intro i x hx
  obtain ⟨b, off, e, hlt, hc⟩ := h i x.cells (by simp [hx])
  exact ⟨b, off, e, hlt, hc 0 _ rfl, hc 1 _ rfl⟩
theorem abides_alloc {β : Type} {B : Nat} {J : β → World → Prop} (h : AbidesFrom B J) {s : β} {W : World} (o : Obj) (hs : J s W) : J s (W.alloc o) := h s W _ none hs (World.grownBy_alloc W o none) (fun r e => by cases e)
theorem take_snoc' {α : Type} {l : List α} {k : Nat} {x : α} (h : l[k]? = some x) : l.take (k + 1) = l.take k ++ [x] := by rw [List.take_add_one, h]; rfl
set_option maxHeartbeats 2000000 in
set_option maxRecDepth 100000 in
theorem vals1 (n : Nat) (hn : 1 ≤ n) (l Bs n₀ cap : Nat) (A : Option Addr) (zs : List Itm) (hl : zs.length ≤ 100000) (J Jx : List Itm → World → Prop) (W : World) (hn₀ : n₀ ≤ W.heap.size) (hJ : AbidesFrom W.heap.size J)
    (hY : ∀ pre x W1, J pre W1 → pre.length < zs.length → YieldAt Fence.wide (n - 1) Tryz.prog l #[Itm.v x] W1 fun e W' => (e = .returned (.bool true) ∧ J (pre ++ [x]) W' ∧ Below n₀ W1 W') ∨ (e = .returned (.bool false) ∧ Jx (pre ++ [x]) W'))
    (hBs : W.cell? ⟨Bs, 0, none⟩ = some (.slice A zs.length cap)) (hc : VI n₀ W A zs) (h0 : J [] W) :
    CallsIn Fence.wide n Tryz.prog 115 #[.func (.yield l) #[] #[], .pointer (some ⟨Bs, 0, none⟩)] W fun e W' => (∃ v, e = .returned v) ∧ ((∃ ys, ys = zs ∧ J ys W') ∨ (∃ pre, pre <+: zs ∧ Jx pre W')) := by
  have HY := Lib.hid hY
  have HC := Lib.hid hc
  have HJ := Lib.hid hJ
  have H0 := Lib.hid h0
  clear hY hc hJ h0
  refine callsIn_of_wp Tryz.func115 rfl trivial ?_ rfl
  simp only [Tryz.ntmps115, List.size_toArray, List.length_cons, List.length_nil, Nat.reduceAdd, Nat.reduceSub, Array.replicate_succ, Array.replicate_zero, List.push_toArray, List.append_toArray, List.nil_append, List.cons_append]
  gi_wp2
  gi_loopw [7, 4] (fun i _ wr => ∃ k : Nat, k ≤ zs.length ∧ i = .int .i64 k ∧ J (zs.take k) wr ∧ Below n₀ W wr) (fun i _ _ => zs.length - (intOf i).toNat)
  case atStart => exact ⟨0, Nat.zero_le _, rfl, H0.out, Below.refl _ _⟩
  case round =>
    obtain ⟨k, hk, rfl, hJs, hnx⟩ := hrel
    by_cases hlt : k < zs.length
    · have hltI : (k : Int) < (zs.length : Int) := by omega
      obtain ⟨x, hx⟩ := get_lt hlt
      obtain ⟨b, off, rfl, hb, d0, d1⟩ := (HC.out.below hnx) k x hx
      have hts := take_snoc' hx
      have hJa := abides_alloc HJ.out (.cells #[.string x.key, .string x.val] 41) hJs
      obtain ⟨fn, tmps, assign, body, hy, hR⟩ := HY.out _ x _ hJa (by rw [List.length_take]; omega)
      have hna : Below n₀ W (wr.alloc (.cells #[.string x.key, .string x.val] 41)) := hnx.alloc (Nat.le_trans hn₀ hnx.size) _
      have HTS := Lib.hid hts
      have HNA := Lib.hid hna
      clear hts hna hJa hJs hx
      rw [Itm.v_def] at hy
      gi_wp2
      refine hR.mono ?_
      rintro e W3 (⟨rfl, hJ3, hk3⟩ | ⟨rfl, hJx3⟩)
      · have HJ3 := Lib.hid hJ3
        have HK3 := Lib.hid (HNA.out.trans hk3)
        clear hJ3 hk3
        gi_wp2
        go_roundw
        case rel => exact ⟨k + 1, by omega, by simp, by rw [HTS.out]; exact HJ3.out, HK3.out⟩
        case measure => simp [intOf]; omega
      · gi_wp2
        refine bodyPost_ret (results_none rfl _ _ _) rfl ?_
        exact ⟨⟨_, rfl⟩, .inr ⟨_, by rw [← HTS.out]; exact List.take_prefix _ _, hJx3⟩⟩
    · obtain rfl : k = zs.length := by omega
      rw [List.take_length] at hJs
      gi_wp2
      go_end0
      exact ⟨⟨_, rfl⟩, .inl ⟨_, rfl, hJs⟩⟩
theorem vals_any (A : Option Addr) (n cap : Nat) (w : World) : Calls Tryz.prog 85 #[.slice A n cap] w fun e w' => e = .returned (.func (.func 115) #[] #[.pointer (some ⟨w.heap.size, 0, none⟩)]) ∧ w.alloc (.cells #[.slice A n cap] 29) = w' := by
  go_enter Tryz.func85, Tryz.ntmps85
  go_wp2
  go_ret
  exact ⟨rfl, rfl⟩
theorem ownM_ne_box {W : World} {B b : Nat} {v : Value} {l : List Itm} {cs : Array Value} {T : TypeId} {fz : Nat × Nat} (h : OwnsM W B v l) (hb : W.heap[b]? = some (.cells cs T fz)) (hT : T ≠ 41) : some b ≠ v.ownBlock := by
  intro e
  rcases h.2 with ⟨he, _⟩ | ⟨g, cap, cur, he, _, hgg, _⟩
  · subst he; cases e
  · subst he
    simp only [Value.ownBlock, Option.some.injEq] at e
    subst e
    rw [hb] at hgg
    simp only [Option.some.injEq, Obj.cells.injEq] at hgg
    exact hT hgg.2.1
set_option maxHeartbeats 2000000 in
set_option maxRecDepth 100000 in
theorem appendSeq_in (A : Option Addr) (cap Bs : Nat) (zs : List Itm) (w : World) (hl : zs.length ≤ 90000) (hBs : w.cell? ⟨Bs, 0, none⟩ = some (.slice A zs.length cap)) (hv : VI w.heap.size w A zs) :
    CallsIn Fence.wide 3 Tryz.prog 130 #[.slice none 0 0, .func (.func 115) #[] #[.pointer (some ⟨Bs, 0, none⟩)]] w fun e w' => ∃ v, e = .returned v ∧ OwnsM w' w.heap.size v zs ∧ Below w.heap.size w w' := by
  obtain ⟨i0, hi, hz0, hz1, hz2⟩ := info_parts M_info
  refine callsIn_of_wp_marks Tryz.func130 rfl trivial ?_ rfl
  simp only [Tryz.ntmps130, List.size_toArray, List.length_cons, List.length_nil, Nat.reduceAdd, Nat.reduceSub, Array.replicate_succ, Array.replicate_zero, List.push_toArray, List.append_toArray, List.nil_append, List.cons_append]
  gi_wp2
  have hBlt : Bs < w.heap.size := World.block_lt_of_cell? _ _ hBs
  have bS := Boxed.new w 29 (.slice none 0 0)
  have hB0 : Below w.heap.size w (w.alloc (.cells #[.slice none 0 0] 29)) := (Below.refl _ w).alloc (Nat.le_refl _) _
  have hBs0 : (w.alloc (.cells #[.slice none 0 0] 29)).cell? ⟨Bs, 0, none⟩ = some (.slice A zs.length cap) := keep_cell_alloc hBlt hBs
  have hv0 := hv.below hB0
  have hs0 : (w.alloc (.cells #[.slice none 0 0] 29)).heap.size = w.heap.size + 1 := by simp
  generalize w.alloc (.cells #[.slice none 0 0] 29) = W0 at *
  have hseq : SeqStopsK Fence.wide (3 - 1) Tryz.prog 115 #[.pointer (some ⟨Bs, 0, none⟩)] (fun x : Itm => #[Itm.v x]) (Below w.heap.size) (fun ys => ys = zs) (fun pre => pre <+: zs) zs.length W0 := fun l J Jx W hW hJ _ hY h0 =>
    vals1 2 (by omega) l Bs w.heap.size cap A zs (by omega) J Jx W (Nat.le_trans hB0.size hW.size) hJ hY ((hW.cell (p := ⟨Bs, 0, none⟩) (by show Bs < _; omega)).trans hBs0) (hv0.below (hW.mono hB0.size)) h0
  refine wpIn_rangeFunc_ownH rfl (by omega) (gf := 115) (lb := #[.pointer (some ⟨Bs, 0, none⟩)]) rfl trivial (enters_of Tryz.func115 (by kernel_rfl) rfl) hseq belowK_t (belowK_b hB0.size) (Below.refl _ _) (fun _ => rfl)
    (fun pre W => (∃ v, Boxed W w.heap.size 29 v ∧ W.ownsRow w.heap.size 41 2 v pre.length (fl pre) ∧ True) ∧ Below w.heap.size w W)
    (fun _ _ _ => False)
    (OwnFrom.and (Own.from (holdsRow_own w.heap.size w.heap.size 29 41 2 (fun pre : List Itm => pre.length) (fun pre => fl pre) (fun _ _ => True)) _) (ownFrom_below (Nat.le_refl _) (by omega)))
    (fun _ _ _ _ _ hs _ _ => hs)
    ⟨⟨_, bS, World.ownsRow_nil _ _ _ _, trivial⟩, hB0⟩
    (fun x a' W => ∃ Bx, w.heap.size < Bx ∧ W.heap[Bx]? = some (.cells #[.string x.key, .string x.val] 41 (0, 0)) ∧ a' = { tmps := #[.slice none 0 0, .func (.func 115) #[] #[.pointer (some ⟨Bs, 0, none⟩)], .pointer (some ⟨w.heap.size, 0, none⟩), undef, .slice none 0 0, .pointer (some ⟨Bx, 0, none⟩), .func (.func 115) #[] #[.pointer (some ⟨Bs, 0, none⟩)], Itm.v x, undef, undef, undef, undef, undef], defers := [] })
    (fun x a' _ X Y row hs hg hr => by obtain ⟨Bx, h1, h2, h3⟩ := hs; exact ⟨Bx, h1, (hg.block Bx (lt_of_row h2) (fun e => by obtain ⟨_, o, ho, hno⟩ := hr Bx e.symm; rw [h2] at ho; cases ho; cases hno)).trans h2, h3⟩)
    ?assign ?body ?done ?stop
  case assign =>
    rintro l pre x W K ⟨⟨v, hv1, hr1, _⟩, hB1⟩ hK
    have hk := hK _ _ ((KeepsOthers.alloc W (.cells #[.string x.key, .string x.val] 41)).from _) ((Below.refl _ W).alloc hB1.size _) ⟨⟨v, hv1.alloc _, OwnsG.alloc (f := Itm.cells) (k := 2) (e := 41) (l := pre) hr1 _, trivial⟩, hB1.alloc hB1.size _⟩ ⟨W.heap.size, hv1.lt, heap_alloc_new W _, rfl⟩
    have HK := Lib.hid hk
    clear hk hK
    rw [Itm.v_def] at *
    gi_wp2
    exact HK.out
  case body =>
    rintro l pre x a' W hl2 ⟨r, hr⟩ ⟨⟨v, hv1, hr1, _⟩, hB1⟩ ⟨Bx, hBx, hx, rfl⟩ hlt
    have hcv := hv1.cell
    have hx0 : W.cell? ⟨Bx, 0, none⟩ = some (.string x.key) := by rw [Lib.cell_of_heap hx]; rfl
    have hx1 : W.cell? ⟨Bx, 1, none⟩ = some (.string x.val) := by rw [Lib.cell_of_heap hx]; rfl
    have hrow : OwnsM W w.heap.size v pre := hr1
    have hpx : OwnsM W w.heap.size v pre → (fl (pre ++ [x])) = fl pre ++ x.cells := fun _ => by rw [fl_append]; simp [fl]
    obtain ⟨A1, c1, rfl⟩ := hrow.slice
    gi_wp2_with (gi_at_builtin; refine wpListIn_append_own _ rfl _ _ 29 rfl w.heap.size 41 i0 _ 2 32 Tryz.underlying29 hi hz0 hz1 hz2 rfl (by decide) _ _ _ rfl (OwnsG.alloc (f := Itm.cells) (k := 2) (e := 41) (l := pre) hrow _) ⟨W.heap.size, 0, none⟩ 1 1 x.cells rfl rfl (ItmAt.cells (T := 41) (heap_alloc_new W _)) (itm_one x) (by unfold maxLen; omega) (by omega) (by have := hB1.size; simp; omega) ?_; intro v' w1 hown' hgrow _; obtain ⟨g', cap', rfl⟩ := ownsRow_succ hown'; obtain ⟨hv1', hv2, hr2, hk2, hb2⟩ := hv1.appended (by decide) hr1 hB1.size (Nat.le_refl _) hown' hgrow; have hc1 := hv1'.cell; have hf1 := hv1'.frozen)
    exact ⟨hk2.from _, hb2, ⟨_, hv2, by rw [List.length_append, hpx hrow]; exact hr2, trivial⟩, hB1.trans hb2⟩
  case done =>
    rintro D ys W hD rfl ⟨⟨v, hv1, hr1, _⟩, hB1⟩ hK
    have hc := hv1.cell
    gi_wp2
    refine ⟨by simp, .inl ⟨_, _, rfl, run_takeDeferred hK, ?_⟩⟩
    exact ⟨_, results_tmp rfl _ _ _, v, rfl, ownsRow_putObj hr1 _ hK rfl, hB1.trans (belowK_b (w := w) (Nat.le_refl _) W D _ _ (by omega) hK rfl rfl)⟩
  case stop =>
    rintro D c pre W _ _ h _
    exact h.elim
end Go.Proofs.YtdfgdnaejnngoaaGreat
namespace Go.Proofs
open Go.Shelf
def Tryz.sortIt_ren : Go.Shelf.Ren := ⟨fun | 6 => 114 | 15 => 132 | 14 => 131 | 28 => 154 | 29 => 155 | 20 => 146 | 21 => 147 | 22 => 148 | 23 => 149 | 24 => 150 | 25 => 151 | 26 => 152 | 27 => 153 | 46 => 159 | 47 => 160 | 48 => 161 | 49 => 162 | 50 => 163 | 57 => 166 | n => n, fun | 22 => 29 | 24 => 41 | 25 => 146 | 3 => 3 | 39 => 42 | 0 => 0 | 53 => 205 | 55 => 37 | 4 => 4 | 46 => 199 | 45 => 198 | 50 => 109 | 5 => 5 | 9 => 9 | 66 => 209 | 70 => 213 | 76 => 218 | 77 => 219 | n => n, fun | n => n⟩
theorem Tryz.sortIt : Go.Proofs.SlLaysF0.n6 Tryz.prog Tryz.sortIt_ren := {
  mixed := by kernel_rfl
  f6 := ⟨Tryz.f114.name, by decide, Tryz.func114.trans (congrArg some (by kernel_rfl))⟩
  f14 := ⟨Tryz.f131.name, by decide, Tryz.func131.trans (congrArg some (by kernel_rfl))⟩
  f15 := Tryz.func132.trans (congrArg some (by kernel_rfl))
  f20 := ⟨Tryz.f146.name, by decide, Tryz.func146.trans (congrArg some (by kernel_rfl))⟩
  f21 := ⟨Tryz.f147.name, by decide, Tryz.func147.trans (congrArg some (by kernel_rfl))⟩
  f22 := ⟨Tryz.f148.name, by decide, Tryz.func148.trans (congrArg some (by kernel_rfl))⟩
  f23 := ⟨Tryz.f149.name, by decide, Tryz.func149.trans (congrArg some (by kernel_rfl))⟩
  f24 := ⟨Tryz.f150.name, by decide, Tryz.func150.trans (congrArg some (by kernel_rfl))⟩
  f25 := ⟨Tryz.f151.name, by decide, Tryz.func151.trans (congrArg some (by kernel_rfl))⟩
  f26 := ⟨Tryz.f152.name, by decide, Tryz.func152.trans (congrArg some (by kernel_rfl))⟩
  f27 := ⟨Tryz.f153.name, by decide, Tryz.func153.trans (congrArg some (by kernel_rfl))⟩
  f28 := Tryz.func154.trans (congrArg some (by kernel_rfl))
  f29 := Tryz.func155.trans (congrArg some (by kernel_rfl))
  f46 := ⟨Tryz.f159.name, by decide, Tryz.func159.trans (congrArg some (by kernel_rfl))⟩
  f47 := Tryz.func160.trans (congrArg some (by kernel_rfl))
  f48 := Tryz.func161.trans (congrArg some (by kernel_rfl))
  f49 := ⟨Tryz.f162.name, by decide, Tryz.func162.trans (congrArg some (by kernel_rfl))⟩
  f50 := ⟨Tryz.f163.name, by decide, Tryz.func163.trans (congrArg some (by kernel_rfl))⟩
  f57 := ⟨Tryz.f166.name, by decide, Tryz.func166.trans (congrArg some (by kernel_rfl))⟩
  t0 := Tryz.underlying0
  a0 := Tryz.isAgg0
  z0 := Tryz.sizeOf0
  v0 := Tryz.zeroValue0
  t3 := Tryz.underlying3
  a3 := Tryz.isAgg3
  z3 := Tryz.sizeOf3
  v3 := Tryz.zeroValue3
  t4 := Tryz.underlying4
  a4 := Tryz.isAgg4
  z4 := Tryz.sizeOf4
  v4 := Tryz.zeroValue4
  t5 := Tryz.underlying5
  a5 := Tryz.isAgg5
  z5 := Tryz.sizeOf5
  v5 := Tryz.zeroValue5
  t9 := Tryz.underlying9
  a9 := Tryz.isAgg9
  z9 := Tryz.sizeOf9
  v9 := Tryz.zeroValue9
  t22 := Tryz.underlying29
  a22 := Tryz.isAgg29
  z22 := Tryz.sizeOf29
  v22 := Tryz.zeroValue29
  t25 := Tryz.underlying146
  a25 := Tryz.isAgg146
  z25 := Tryz.sizeOf146
  v25 := Tryz.zeroValue146
  t39 := Tryz.underlying42
  a39 := Tryz.isAgg42
  z39 := Tryz.sizeOf42
  v39 := Tryz.zeroValue42
  t45 := Tryz.underlying198
  a45 := Tryz.isAgg198
  z45 := Tryz.sizeOf198
  v45 := Tryz.zeroValue198
  t46 := Tryz.underlying199
  a46 := Tryz.isAgg199
  z46 := Tryz.sizeOf199
  v46 := Tryz.zeroValue199
  t50 := Tryz.underlying109
  a50 := Tryz.isAgg109
  z50 := Tryz.sizeOf109
  v50 := Tryz.zeroValue109
  t53 := Tryz.underlying205
  a53 := Tryz.isAgg205
  z53 := Tryz.sizeOf205
  v53 := Tryz.zeroValue205
  t55 := Tryz.underlying37
  a55 := Tryz.isAgg37
  z55 := Tryz.sizeOf37
  v55 := Tryz.zeroValue37
  t66 := Tryz.underlying209
  a66 := Tryz.isAgg209
  z66 := Tryz.sizeOf209
  v66 := Tryz.zeroValue209
  t70 := Tryz.underlying213
  a70 := Tryz.isAgg213
  z70 := Tryz.sizeOf213
  v70 := Tryz.zeroValue213
  t76 := Tryz.underlying218
  a76 := Tryz.isAgg218
  z76 := Tryz.sizeOf218
  v76 := Tryz.zeroValue218
  t77 := Tryz.underlying219
  a77 := Tryz.isAgg219
  z77 := Tryz.sizeOf219
  v77 := Tryz.zeroValue219 }
end Go.Proofs
namespace Go.Proofs.YtdfgdnaejnngoaaGreat
open Go.RowKit Go.Sort
/-! slices.SortFunc over items, by key.Compare. -/
instance : Inhabited Itm := ⟨⟨⟨#[]⟩, ⟨#[]⟩⟩⟩
theorem cmpNaN_w (k : ByteArray) (w : World) : Calls Tryz.prog 133 #[.string k] w fun e w' => e = .returned (.bool false) ∧ w = w' := by
  go_enter Tryz.func133, Tryz.ntmps133
  go_wp2
  go_ret
  exact ⟨rfl, rfl⟩
theorem cmpStr_w (a b : ByteArray) (w : World) : Calls Tryz.prog 116 #[.string a, .string b] w fun e w' => e = .returned (.int .i64 (cmpB a b)) ∧ w = w' := by
  have HN := Lib.hid (fun k W => cmpNaN_w k W)
  have hr : cmpB a b = if Op.bytesLess a.toList b.toList = true then -1 else if (a.toList == b.toList) = true then 0 else 1 := rfl
  have HR := Lib.hid hr
  clear hr
  cases h1 : Op.bytesLess a.toList b.toList
  · cases h2 : (a.toList == b.toList)
    · go_enter Tryz.func116, Tryz.ntmps116
      go_wp2_with (go_at_call 133; (with_reducible refine (HN.out _ _).mono ?_); rintro e w1 ⟨rfl, rfl⟩)
      go_ret
      exact ⟨by rw [HR.out, h1, h2]; rfl, rfl⟩
    · go_enter Tryz.func116, Tryz.ntmps116
      go_wp2_with (go_at_call 133; (with_reducible refine (HN.out _ _).mono ?_); rintro e w1 ⟨rfl, rfl⟩)
      go_ret
      exact ⟨by rw [HR.out, h1, h2]; rfl, rfl⟩
  · go_enter Tryz.func116, Tryz.ntmps116
    go_wp2_with (go_at_call 133; (with_reducible refine (HN.out _ _).mono ?_); rintro e w1 ⟨rfl, rfl⟩)
    go_ret
    exact ⟨by rw [HR.out, h1]; rfl, rfl⟩
theorem keyCompare_w (x y : Itm) (w : World) : Calls Tryz.prog 86 #[x.v, y.v] w fun e w' => e = .returned (.int .i64 (cmpB x.key y.key)) ∧ ∃ q os', w' = grow (w.drewN q) os' := by
  have HC := Lib.hid (fun a b W => cmpStr_w a b W)
  rw [Itm.v_def, Itm.v_def]
  go_enter Tryz.func86, Tryz.ntmps86
  go_wp2_with (go_at_call 116; (with_reducible refine (HC.out _ _ _).mono ?_); rintro e w1 ⟨rfl, rfl⟩)
  go_ret
  exact ⟨rfl, 0, _, by rw [alloc_eq_grow, alloc_eq_grow, grow_grow]; rfl⟩
theorem ltOf_cmp (x y : Itm) : Go.Proofs.ltOf (fun x y : Itm => cmpB x.key y.key) x y = klt x.key y.key := cmpB_lt x.key y.key
theorem swo_cmp : SWO (Go.Proofs.ltOf fun x y : Itm => cmpB x.key y.key) where
  irrefl x := by rw [ltOf_cmp]; exact klt_irrefl _
  trans x y z h1 h2 := by rw [ltOf_cmp] at *; exact klt_trans h1 h2
  ntrans x y z h1 h2 := by
    rw [ltOf_cmp] at *
    cases h : klt x.key z.key
    · rfl
    · cases h3 : klt y.key x.key
      · have := klt_tri h1 h3
        rw [this, h2] at h
        cases h
      · rw [klt_trans h3 h] at h2
        cases h2
theorem flatK_fl (d : Array Itm) : (flatK Itm.cells 2 d).toList = fl d.toList := by
  apply List.ext_getElem?
  intro t
  by_cases ht : t < d.size * 2
  · have h1 : (flatK Itm.cells 2 d).toList[t]? = some ((flatK Itm.cells 2 d)[t]!) := by
      rw [Array.getElem?_toList, getElem!_pos _ t (by simpa using ht)]
      exact Array.getElem?_eq_getElem (by simpa using ht)
    rw [h1, get_flatK Itm.cells 2 d t ht]
    have hi : t / 2 < d.size := by omega
    have hx : d.toList[t / 2]? = some (d[t / 2]!) := by
      rw [Array.getElem?_toList, getElem!_pos d (t / 2) hi]
      exact Array.getElem?_eq_getElem hi
    have h2 : (Itm.cells (d[t / 2]!))[t % 2]? = some ((Itm.cells (d[t / 2]!))[t % 2]!) := by
      have : t % 2 < (Itm.cells (d[t / 2]!)).length := by rw [Itm.clen]; omega
      rw [getElem!_pos (Itm.cells (d[t / 2]!)) (t % 2) this]
      exact List.getElem?_eq_getElem this
    have := flatten_at (k := 2) (rows := d.toList.map Itm.cells) (fun r hr => by obtain ⟨v, _, rfl⟩ := List.mem_map.1 hr; exact Itm.clen v) (t / 2) (Itm.cells (d[t / 2]!)) (by rw [List.getElem?_map, hx]; rfl) (t % 2) _ h2
    rw [show t / 2 * 2 + t % 2 = t from by omega] at this
    exact this.symm
  · rw [List.getElem?_eq_none (by simp; omega), List.getElem?_eq_none (by rw [fl_len]; simp; omega)]
theorem putCells_take (F c : Array Value) (h : F.size ≤ c.size) : (putCells id 0 F c).size = c.size ∧ (putCells id 0 F c).toList.take F.size = F.toList := by
  refine ⟨by simp [putCells], ?_⟩
  apply List.ext_getElem?
  intro t
  rw [List.getElem?_take]
  by_cases ht : t < F.size
  · have htc : t < c.size := by omega
    rw [if_pos ht]
    simp [putCells, ht, htc]
  · rw [if_neg ht, List.getElem?_eq_none (by simpa using ht)]
theorem holdsK_own {w : World} {B g n cap : Nat} {l : List Itm} (h : OwnsM w B (.slice (some ⟨g, 0, none⟩) n cap) l) : HoldsK Itm.cells 2 w g 0 l.toArray := by
  obtain ⟨cur, hg, hB, hcl, hcm, hlc, ht, _⟩ := h.block
  intro j hj
  have hj2 : j < l.length * 2 := by simpa using hj
  rw [Lib.cell_of_heap hg]
  refine ⟨?_, Lib.frozen_of_heap hg _⟩
  have h1 : (flatK Itm.cells 2 l.toArray)[j]! = (fl l)[j]! := by
    have := flatK_fl l.toArray
    have e : (fl l) = (flatK Itm.cells 2 l.toArray).toList := by rw [this]
    rw [e, getElem!_pos _ j hj, getElem!_pos _ j (by simpa using hj)]
    simp
  show cur.toArray[0 + j]? = some (id ((flatK Itm.cells 2 l.toArray)[j]!))
  rw [h1, Nat.zero_add]
  have h2 : (fl l)[j]? = some ((fl l)[j]!) := by
    have : j < (fl l).length := by rw [fl_len]; exact hj2
    rw [getElem!_pos _ j this]
    exact List.getElem?_eq_getElem this
  have h3 : fl l = (l.map Itm.cells).flatten := rfl
  rw [h3, ← ht] at h2
  rw [List.getElem?_take, if_pos hj2] at h2
  rw [h3, ← ht]
  simpa using h2
theorem sortWorld_row {w : World} {B g cap m : Nat} {l : List Itm} {d' : Array Itm} {os : Array Obj} (h : OwnsM w B (.slice (some ⟨g, 0, none⟩) l.length cap) l) (hs : d'.size = l.length) :
    OwnsM (Go.Proofs.sortWorldK Itm.cells 2 w g 0 m d' os) B (.slice (some ⟨g, 0, none⟩) l.length cap) d'.toList ∧ Fr (fun k => k = g) w (Go.Proofs.sortWorldK Itm.cells 2 w g 0 m d' os) := by
  obtain ⟨cur, hg, hB, hcl, hcm, hlc, ht, _⟩ := h.block
  have hglt := lt_of_row hg
  have hfs : (flatK Itm.cells 2 d').size = d'.size * 2 := size_flatK _ _ _
  have hpc := putCells_take (flatK Itm.cells 2 d') cur.toArray (by rw [hfs]; simp; omega)
  have hsz : w.heap.size ≤ ((w.heap.modify g (onCells (putCells id 0 (flatK Itm.cells 2 d')))) ++ os).size := by simp
  have hrow : (Go.Proofs.sortWorldK Itm.cells 2 w g 0 m d' os).heap[g]? = some (.cells (putCells id 0 (flatK Itm.cells 2 d') cur.toArray).toList.toArray 41 (0, 0)) := by
    show ((w.heap.modify g (onCells (putCells id 0 (flatK Itm.cells 2 d')))) ++ os)[g]? = _
    rw [Array.getElem?_append_left (by simpa using hglt), Array.getElem?_modify, if_pos rfl, hg]
    simp [onCells]
  refine ⟨?_, ⟨rfl, rfl, rfl, hsz, fun k hk hn => ?_⟩⟩
  · have hl : d'.toList.length = l.length := by simpa using hs
    rw [← hl]
    refine OwnsM.of_block hrow hB ?_ hcm (by omega) ?_
    · rw [Array.length_toList, hpc.1]; simpa using hcl
    · have := hpc.2
      rw [hfs, flatK_fl] at this
      rw [show d'.toList.length * 2 = d'.size * 2 from by simp, this]
      rfl
  · show ((w.heap.modify g (onCells (putCells id 0 (flatK Itm.cells 2 d')))) ++ os)[k]? = _
    rw [Array.getElem?_append_left (by simpa using hk), Array.getElem?_modify, if_neg (fun e => hn e.symm)]
def SortedL (l : List Itm) : Prop := ∀ (i j : Nat) (x y : Itm), i < j → l[i]? = some x → l[j]? = some y → klt y.key x.key = false
theorem sort_any (B g cap : Nat) (l : List Itm) (w : World) (h : OwnsM w B (.slice (some ⟨g, 0, none⟩) l.length cap) l) (hl : l.length ≤ 100000) :
    Calls Tryz.prog 114 #[.slice (some ⟨g, 0, none⟩) l.length cap, .func (.func 86) #[] #[]] w
    fun e w' => e = .returned (.tuple #[]) ∧ ∃ l', l'.Perm l ∧ SortedL l' ∧ OwnsM w' B (.slice (some ⟨g, 0, none⟩) l.length cap) l' ∧ Fr (fun k => k = g) w w' := by
  have eg : ∀ args w, (callFunc 86 args).run Tryz.prog w = .ok (.enter 86 args) w := enters_of Tryz.func86 (by kernel_rfl) rfl
  have hglt : g < w.heap.size := by obtain ⟨cur, hg, _⟩ := h.block; exact lt_of_row hg
  have hcon := Go.Proofs.AnyQ.slices_SortFunc Tryz.sortIt 2 Tryz.isAgg41 Tryz.sizeOf41 Itm.cells Itm.clen itm_one (fun x y => cmpB x.key y.key) swo_cmp 86 #[] g 0 cap l.toArray w eg (fun _ _ _ _ x y => keyCompare_w x y _) (holdsK_own h) hglt (by simp; omega)
  refine Calls.mono hcon ?_
  rintro e w' ⟨rfl, d', n, os, hp, hs, rfl⟩
  have hsz : d'.size = l.length := by have := hp.1; simpa using this
  obtain ⟨h1, h2⟩ := sortWorld_row (m := n) (os := os) h hsz
  refine ⟨rfl, d'.toList, ?_, ?_, h1, h2⟩
  · have := hp.2.2
    have e1 : d'.extract 0 l.toArray.size = d' := by rw [List.size_toArray, ← hsz]; simp
    have e2 : l.toArray.extract 0 l.toArray.size = l.toArray := by simp
    rw [e1, e2] at this
    exact this
  · intro i j x y hij hx hy
    have hj : j < d'.size := by have := (List.getElem?_eq_some_iff.1 hy).1; simpa using this
    have := hs i j (Nat.zero_le _) hij (by rw [List.size_toArray, ← hsz]; exact hj)
    rw [ltOf_cmp] at this
    have e1 : d'[i]! = x := by rw [getElem!_pos _ i (by omega)]; have := (List.getElem?_eq_some_iff.1 hx).2; simpa using this
    have e2 : d'[j]! = y := by rw [getElem!_pos _ j hj]; have := (List.getElem?_eq_some_iff.1 hy).2; simpa using this
    rw [e1, e2] at this
    exact this
end Go.Proofs.YtdfgdnaejnngoaaGreat
namespace Go.Proofs.YtdfgdnaejnngoaaGreat
open Go.RowKit
/-! slices.CompactFunc over items, by leaf.isTwin; leaf.isBad. -/
def badI (x : Itm) : Bool := !isKey x.key || !isVal x.val
def badV : Value → Bool
  | .agg #[.string k, .string u] => badI ⟨k, u⟩
  | _ => false
set_option maxRecDepth 100000 in
theorem isBad_any (x : Itm) (w : World) : Calls Tryz.prog 83 #[x.v] w fun e w' => e = .returned (.bool (badI x)) ∧ Below w.heap.size w w' := by
  obtain ⟨k, v⟩ := x
  have hK := fun W => keyIs_any k W
  have hV := fun W => keyIsVal_any v W
  have hb : badI ⟨k, v⟩ = (!isKey k || !isVal v) := rfl
  generalize badI ⟨k, v⟩ = R at hb ⊢
  generalize isKey k = p at hK hb
  generalize isVal v = q at hV hb
  have HK := Lib.hid hK
  have HV := Lib.hid hV
  clear hK hV
  rw [Itm.v_def]
  have c1 : (w.alloc (.cells #[.string k, .string v] 41)).cell? ⟨w.heap.size, 1, none⟩ = some (.string v) := by rw [Lib.cell_of_heap (heap_alloc_new w _)]; rfl
  have C1 := Lib.hid c1
  clear c1
  cases p
  · simp only [Bool.not_false, Bool.true_or] at hb
    subst hb
    go_enter Tryz.func83, Tryz.ntmps83
    go_wp2_with (go_at_call 31; (with_reducible refine (HK.out _).mono ?_); rintro e w1 ⟨rfl, hb1⟩)
    go_ret
    exact ⟨rfl, below_next (by repeat (first | assumption | exact Below.refl _ _ | (refine below_step (w := ?_) ?_ ?_ ?_; rotate_left 2; assumption) | refine Below.drew ?_ | refine below_drewN ?_ _ | refine Below.alloc ?_ ?_ _ | refine Below.setCell ?_ ?_ _ | (focus (simp; done)) | (focus (simp; omega)) | omega)) hb1⟩
  · simp only [Bool.not_true, Bool.false_or] at hb
    subst hb
    go_enter Tryz.func83, Tryz.ntmps83
    go_wp2_with (first | (go_at_call 31; (with_reducible refine (HK.out _).mono ?_); rintro e w1 ⟨rfl, hb1⟩; have c1 := (hb1.cell (p := ⟨w.heap.size, 1, none⟩) (by simp)).trans C1.out; have HB1 := Lib.hid (below_next (Below.alloc (Below.refl _ _) (Nat.le_refl _) _) hb1); clear hb1) | (go_at_call 32; (with_reducible refine (HV.out _).mono ?_); rintro e w2 ⟨rfl, hb2⟩))
    go_ret
    exact ⟨rfl, below_next HB1.out hb2⟩
theorem isTwin_any (x y : Itm) (w : World) : Calls Tryz.prog 88 #[x.v, y.v] w fun e w' => e = .returned (.bool (decide (x.key = y.key))) ∧ Below w.heap.size w w' := by
  have hr : (x.key.toList == y.key.toList) = decide (x.key = y.key) := by
    rw [Bool.eq_iff_iff]
    simp [bytes_inj]
  have HR := Lib.hid hr
  clear hr
  rw [Itm.v_def, Itm.v_def]
  go_enter Tryz.func88, Tryz.ntmps88
  go_wp2
  go_ret
  exact ⟨ret_bool HR.out, (by repeat (first | assumption | exact Below.refl _ _ | (refine below_step (w := ?_) ?_ ?_ ?_; rotate_left 2; assumption) | refine Below.drew ?_ | refine below_drewN ?_ _ | refine Below.alloc ?_ ?_ _ | refine Below.setCell ?_ ?_ _ | (focus (simp; done)) | (focus (simp; omega)) | omega))⟩
/-- two that follow one another with one key -/
def adjB : List Itm → Bool
  | x :: y :: l => decide (y.key = x.key) || adjB (y :: l)
  | _ => false
theorem adj_at : ∀ {l : List Itm}, adjB l = false → ∀ {k : Nat} {x y : Itm}, l[k]? = some x → l[k + 1]? = some y → decide (y.key = x.key) = false
  | [], _, k, x, y, hx, _ => by simp at hx
  | [z], _, k, x, y, _, hy => by simp at hy
  | a :: b :: l, h, 0, x, y, hx, hy => by
    simp at hx hy
    subst hx hy
    simp [adjB] at h
    simp [h.1]
  | a :: b :: l, h, k + 1, x, y, hx, hy => by
    simp at hx hy
    rw [adjB, Bool.or_eq_false_iff] at h
    exact adj_at h.2 hx (by simpa using hy)
theorem adj_of : ∀ {l : List Itm}, adjB l = true → ∃ k x y, l[k]? = some x ∧ l[k + 1]? = some y ∧ decide (y.key = x.key) = true
  | [], h => by cases h
  | [z], h => by cases h
  | a :: b :: l, h => by
    rw [adjB, Bool.or_eq_true] at h
    rcases h with h | h
    · exact ⟨0, a, b, rfl, rfl, h⟩
    · obtain ⟨k, x, y, h1, h2, h3⟩ := adj_of h
      exact ⟨k + 1, x, y, by simpa using h1, by simpa using h2, h3⟩
theorem compact_few (A : Option Addr) (n cap : Nat) (f : Value) (w : World) (hn : n < 2) : Calls Tryz.prog 87 #[.slice A n cap, f] w fun e w' => e = .returned (.slice A n cap) ∧ w = w' := by
  have hnI : (n : Int) < 2 := by omega
  go_enter Tryz.func87, Tryz.ntmps87
  go_wp2
  go_ret
  exact ⟨rfl, rfl⟩
set_option maxHeartbeats 1000000 in
set_option maxRecDepth 100000 in
theorem compact_none (g cap : Nat) (l : List Itm) (w : World) (B : Nat) (h : OwnsM w B (.slice (some ⟨g, 0, none⟩) l.length cap) l) (hl : l.length ≤ 100000) (h2 : 2 ≤ l.length) (hadj : adjB l = false) :
    Calls Tryz.prog 87 #[.slice (some ⟨g, 0, none⟩) l.length cap, .func (.func 88) #[] #[]] w fun e w' => e = .returned (.slice (some ⟨g, 0, none⟩) l.length cap) ∧ Below w.heap.size w w' := by
  have HO := Lib.hid h
  have HA := Lib.hid hadj
  have hnI : (2 : Int) ≤ (l.length : Int) := by omega
  clear h hadj
  go_enter Tryz.func87, Tryz.ntmps87
  go_wp2
  go_loopw [5] (fun i wr => ∃ k : Nat, i = .int .i64 k ∧ 1 ≤ k ∧ k ≤ l.length ∧ Below w.heap.size w wr) (fun i _ => l.length + 1 - (intOf i).toNat)
  case atStart => exact ⟨1, rfl, by omega, by omega, (by repeat (first | assumption | exact Below.refl _ _ | (refine below_step (w := ?_) ?_ ?_ ?_; rotate_left 2; assumption) | refine Below.drew ?_ | refine below_drewN ?_ _ | refine Below.alloc ?_ ?_ _ | refine Below.setCell ?_ ?_ _ | (focus (simp; done)) | (focus (simp; omega)) | omega))⟩
  case round =>
    obtain ⟨k, rfl, hk1, hk, hbel⟩ := hrel
    by_cases hkl : k < l.length
    · have hkI : (k : Int) < (l.length : Int) := by omega
      obtain ⟨y, hy⟩ := get_lt hkl
      obtain ⟨m, hmk⟩ : ∃ m, k = m + 1 := ⟨k - 1, by omega⟩
      obtain ⟨x, hx⟩ := get_lt (l := l) (i := m) (by omega)
      obtain ⟨g1, e1, _, hglt, _, hcx⟩ := HO.out.row Itm.clen hx
      cases e1
      obtain ⟨g2, e2, _, _, _, hcy⟩ := HO.out.row Itm.clen hy
      cases e2
      have d0 := (hbel.cell (p := ⟨g, _, none⟩) hglt).trans (hcx 0 _ rfl)
      have d1 := (hbel.cell (p := ⟨g, _, none⟩) hglt).trans (hcx 1 _ rfl)
      have d2 := (hbel.cell (p := ⟨g, _, none⟩) hglt).trans (hcy 0 _ rfl)
      have d3 := (hbel.cell (p := ⟨g, _, none⟩) hglt).trans (hcy 1 _ rfl)
      simp only [Nat.add_zero] at d0 d2
      have hq := adj_at HA.out hx (hmk ▸ hy)
      have hc := fun W => isTwin_any y x W
      rw [hq] at hc
      obtain ⟨xk, xv⟩ := x
      obtain ⟨yk, yv⟩ := y
      rw [Itm.v_def, Itm.v_def] at hc
      dsimp only at d0 d1 d2 d3
      have HC := Lib.hid hc
      have hglt2 : g < wr.heap.size := Nat.lt_of_lt_of_le hglt hbel.size
      have hw1 : IntKind.i64.wrap ((k : Int) - 1) = (m : Int) := by rw [IntKind.wrap_i64]; omega
      have hm0 : (m : Int) < (l.length : Int) := by omega
      clear hc hcx hcy hx hy hq hglt hmk
      go_wp2
      refine rg_start (n := 11) (fun w' => w'.cell? ⟨g, m * 2, none⟩ = some (.string xk) ∧ w'.cell? ⟨g, m * 2 + 1, none⟩ = some (.string xv) ∧ w'.cell? ⟨g, k * 2, none⟩ = some (.string yk) ∧ w'.cell? ⟨g, k * 2 + 1, none⟩ = some (.string yv) ∧ Below w.heap.size w w' ∧ g < w'.heap.size) #[false, false, false, false, false, false, false, false, false, false, false] (by kernel_rfl) rfl rfl ⟨d0, d1, d2, d3, hbel.drew, hglt2⟩ (fun hHeld => ?_)
      refine rg_take (i := 0) (N := (some 18)) (v := ?_) (a' := ?_) #[true, false, false, false, false, false, false, false, false, false, false] rfl rfl (by kernel_rfl) (fun _ _ _ h => h) (by rfl) ?_ hHeld ?_ ?_
      rotate_left 2
      · rintro w' ⟨s0, s1, s2, s3, s4, s5⟩
        go_simp
        try with_reducible rfl
      · simp only [Act.put, List.setIfInBounds_toArray, List.set_cons_zero, List.set_cons_succ]
        rfl
      refine rg_take (i := 1) (N := (some 19)) (v := ?_) (a' := ?_) #[true, true, false, false, false, false, false, false, false, false, false] rfl rfl (by kernel_rfl) (fun _ _ _ h => h) (by rfl) ?_ hHeld ?_ ?_
      rotate_left 2
      · rintro w' ⟨s0, s1, s2, s3, s4, s5⟩
        go_simp
        try with_reducible rfl
      · simp only [Act.put, List.setIfInBounds_toArray, List.set_cons_zero, List.set_cons_succ]
        rfl
      refine rg_take (i := 2) (N := (some 20)) (v := ?_) (a' := ?_) #[true, true, true, false, false, false, false, false, false, false, false] rfl rfl (by kernel_rfl) (fun _ _ _ h => h) (by rfl) ?_ hHeld ?_ ?_
      rotate_left 2
      · rintro w' ⟨s0, s1, s2, s3, s4, s5⟩
        go_simp
        try with_reducible rfl
      · simp only [Act.put, List.setIfInBounds_toArray, List.set_cons_zero, List.set_cons_succ]
        rfl
      refine rg_take (i := 3) (N := (some 21)) (v := ?_) (a' := ?_) #[true, true, true, true, false, false, false, false, false, false, false] rfl rfl (by kernel_rfl) (fun _ _ _ h => h) (by rfl) ?_ hHeld ?_ ?_
      rotate_left 2
      · rintro w' ⟨s0, s1, s2, s3, s4, s5⟩
        go_simp
        try with_reducible rfl
      · simp only [Act.put, List.setIfInBounds_toArray, List.set_cons_zero, List.set_cons_succ]
        rfl
      refine rg_take (i := 4) (N := (some 22)) (v := ?_) (a' := ?_) #[true, true, true, true, true, false, false, false, false, false, false] rfl rfl (by kernel_rfl) (fun _ _ _ h => h) (by rfl) ?_ hHeld ?_ ?_
      rotate_left 2
      · rintro w' ⟨s0, s1, s2, s3, s4, s5⟩
        go_simp
        try with_reducible rfl
      · simp only [Act.put, List.setIfInBounds_toArray, List.set_cons_zero, List.set_cons_succ]
        rfl
      refine rg_take (i := 5) (N := (some 23)) (v := ?_) (a' := ?_) #[true, true, true, true, true, true, false, false, false, false, false] rfl rfl (by kernel_rfl) (fun _ _ _ h => h) (by rfl) ?_ hHeld ?_ ?_
      rotate_left 2
      · rintro w' ⟨s0, s1, s2, s3, s4, s5⟩
        go_simp
        try with_reducible rfl
      · simp only [Act.put, List.setIfInBounds_toArray, List.set_cons_zero, List.set_cons_succ]
        rfl
      refine rg_take (i := 6) (N := (some 24)) (v := ?_) (a' := ?_) #[true, true, true, true, true, true, true, false, false, false, false] rfl rfl (by kernel_rfl) (fun _ _ _ h => h) (by rfl) ?_ hHeld ?_ ?_
      rotate_left 2
      · rintro w' ⟨s0, s1, s2, s3, s4, s5⟩
        go_simp
        try with_reducible rfl
      · simp only [Act.put, List.setIfInBounds_toArray, List.set_cons_zero, List.set_cons_succ]
        rfl
      refine rg_take (i := 7) (N := (some 25)) (v := ?_) (a' := ?_) #[true, true, true, true, true, true, true, true, false, false, false] rfl rfl (by kernel_rfl) (fun _ _ _ h => h) (by rfl) ?_ hHeld ?_ ?_
      rotate_left 2
      · rintro w' ⟨s0, s1, s2, s3, s4, s5⟩
        go_simp
        try with_reducible rfl
      · simp only [Act.put, List.setIfInBounds_toArray, List.set_cons_zero, List.set_cons_succ]
        rfl
      refine rg_take (i := 8) (N := (some 26)) (v := ?_) (a' := ?_) #[true, true, true, true, true, true, true, true, true, false, false] rfl rfl (by kernel_rfl) (fun _ _ _ h => h) (by rfl) ?_ hHeld ?_ ?_
      rotate_left 2
      · rintro w' ⟨s0, s1, s2, s3, s4, s5⟩
        go_simp
        try with_reducible rfl
      · simp only [Act.put, List.setIfInBounds_toArray, List.set_cons_zero, List.set_cons_succ]
        rfl
      refine rg_take (i := 9) (N := (some 27)) (v := ?_) (a' := ?_) #[true, true, true, true, true, true, true, true, true, true, false] rfl rfl (by kernel_rfl) (fun _ _ _ h => h) (by rfl) ?_ hHeld ?_ ?_
      rotate_left 2
      · rintro w' ⟨s0, s1, s2, s3, s4, s5⟩
        go_simp
        try with_reducible rfl
      · simp only [Act.put, List.setIfInBounds_toArray, List.set_cons_zero, List.set_cons_succ]
        rfl
      refine rg_one (i := 10) #[true, true, true, true, true, true, true, true, true, true, true] rfl (by kernel_rfl) (by rfl) (fun K hK => ?_)
      obtain ⟨s0, s1, s2, s3, s4, s5⟩ := hHeld
      repeat go_step
      ((with_reducible refine (HC.out _).mono ?_); rintro e w2 ⟨rfl, hb2⟩)
      try dsimp only
      refine hK.out _ _ ?_ (fun hHeld => ?_)
      · (repeat (first | (with_reducible assumption) | (with_reducible apply And.intro) | (with_reducible refine keep_cell (w := ?_) ?_ ?_ ?_; rotate_left; with_reducible assumption) | (with_reducible refine keep_cell_alloc ?_ ?_) | (with_reducible refine keep_lt (w := ?_) ?_ ?_; rotate_left; with_reducible assumption) | (with_reducible refine keep_lt_alloc ?_) | (with_reducible refine below_next (w := ?_) ?_ ?_; rotate_left 2; with_reducible assumption) | (with_reducible refine below_alloc ?_) | (with_reducible refine Below.drew ?_) | (with_reducible refine keep_lt_drew ?_) | (with_reducible refine keep_cell_drew ?_)))
      clear hK K
      clear s0 s1 s2 s3 s4 s5
      refine rg_done (by kernel_rfl) ?_
      obtain ⟨_, _, _, _, t4, _⟩ := hHeld
      clear d0 d1 d2 d3
      go_wp2
      refine ⟨⟨k + 1, by go_num, by omega, by omega, t4⟩, ?_⟩
      simp [intOf]
      omega
    · obtain rfl : k = l.length := by omega
      go_wp2
      go_ret
      exact ⟨rfl, hbel⟩
end Go.Proofs.YtdfgdnaejnngoaaGreat
