import Derived.Test.YtdfgdnaejnngoaaGreatJa6
import Derived.Test.YtdfgdnaejnngoaaGreatJa5
import Derived.Test.YtdfgdnaejnngoaaGreatJa3
import Derived.Test.YtdfgdnaejnngoaaGreatJa4
namespace Go.Proofs.YtdfgdnaejnngoaaGreat
open Go.RowKit
/-! The model in memory: its rows; now. -/
/-- a row of pointers to leaves, in block g from off on -/
structure RowsAt (w : World) (g off n cap : Nat) (ps : List Nat) : Prop where
  len : ps.length = n
  blk : ∃ cur : List Value, w.heap[g]? = some (.cells cur.toArray 98 (0, 0)) ∧ off + cap ≤ cur.length ∧ ∀ (j p : Nat), ps[j]? = some p → cur[off + j]? = some (.pointer (some ⟨p, 0, none⟩))
  le : n ≤ cap
  cm : cap ≤ maxLen
theorem RowsAt.lt {w : World} {g off n cap : Nat} {ps : List Nat} (h : RowsAt w g off n cap ps) : g < w.heap.size := by
  obtain ⟨cur, hg, _⟩ := h.blk
  exact lt_of_row hg
theorem RowsAt.fr {S : Nat → Prop} {w w' : World} {g off n cap : Nat} {ps : List Nat} (h : RowsAt w g off n cap ps) (hf : Fr S w w') (hs : ¬ S g) : RowsAt w' g off n cap ps := by
  obtain ⟨cur, hg, h1, h2⟩ := h.blk
  exact ⟨h.len, ⟨cur, hf.row hs hg, h1, h2⟩, h.le, h.cm⟩
theorem RowsAt.cell {w : World} {g off n cap : Nat} {ps : List Nat} (h : RowsAt w g off n cap ps) {j p : Nat} (hp : ps[j]? = some p) : w.cell? ⟨g, off + j, none⟩ = some (.pointer (some ⟨p, 0, none⟩)) := by
  obtain ⟨cur, hg, h1, h2⟩ := h.blk
  rw [Lib.cell_of_heap hg]
  simpa using h2 j p hp
/-- items that lie in neither block -/
def Apart (A : Option Addr) (l : List Itm) (bm g : Nat) : Prop := l ≠ [] → ∀ ad, A = some ad → ad.block ≠ bm ∧ ad.block ≠ g
structure ModelAt (w : World) (bm g : Nat) (N : Int) (ls : List (List Itm)) : Prop where
  row : ∃ off n cap ps, w.heap[bm]? = some (.cells (planA N ++ #[.slice (some ⟨g, off, none⟩) n cap]) 102 (0, 0)) ∧ RowsAt w g off n cap ps ∧ ps.length = ls.length ∧ ∀ (j p : Nat) (l : List Itm), ps[j]? = some p → ls[j]? = some l → ∃ A c, LeafAt w p A c l ∧ Apart A l bm g
  pos : 0 < ls.length
theorem ModelAt.lt {w : World} {bm g : Nat} {N : Int} {ls : List (List Itm)} (h : ModelAt w bm g N ls) : bm < w.heap.size := by
  obtain ⟨off, n, cap, ps, h1, _⟩ := h.row
  exact lt_of_row h1
theorem ModelAt.glt {w : World} {bm g : Nat} {N : Int} {ls : List (List Itm)} (h : ModelAt w bm g N ls) : g < w.heap.size := by
  obtain ⟨off, n, cap, ps, _, h1, _⟩ := h.row
  exact h1.lt
/-- blocks of another kind -/
theorem kinds_ne {w : World} {a b : Nat} {ca cb : Array Value} {ta tb : TypeId} {fa fb : Nat × Nat} (ha : w.heap[a]? = some (.cells ca ta fa)) (hb : w.heap[b]? = some (.cells cb tb fb)) (hne : ta ≠ tb) : a ≠ b := by
  rintro rfl
  rw [ha] at hb
  simp only [Option.some.injEq, Obj.cells.injEq] at hb
  exact hne hb.2.1
theorem LeafAt.fr {S : Nat → Prop} {w w' : World} {p c : Nat} {A : Option Addr} {l : List Itm} (h : LeafAt w p A c l) (hf : Fr S w w') (h1 : ¬ S p) (h2 : l ≠ [] → ∀ ad, A = some ad → ¬ S ad.block) : LeafAt w' p A c l := by
  refine ⟨hf.row h1 h.cell, ?_, h.rises, h.oks, h.nil⟩
  by_cases e : l = []
  · subst e
    intro i r hr
    simp at hr
  · exact h.els.fr hf (h2 e)
theorem LeafAt.alt {w : World} {p c : Nat} {A : Option Addr} {l : List Itm} (h : LeafAt w p A c l) (hl : l ≠ []) {ad : Addr} (e : A = some ad) : ad.block < w.heap.size := by
  obtain ⟨x, l', rfl⟩ := List.exists_cons_of_ne_nil hl
  obtain ⟨b, off, e2, hlt, _⟩ := h.els 0 x.cells rfl
  rw [e] at e2
  cases e2
  exact hlt
theorem ModelAt.below {w w' : World} {bm g : Nat} {N : Int} {ls : List (List Itm)} (h : ModelAt w bm g N ls) (hb : Below w.heap.size w w') : ModelAt w' bm g N ls := by
  obtain ⟨off, n, cap, ps, h1, h2, h3, h4⟩ := h.row
  refine ⟨⟨off, n, cap, ps, (Fr.of_below (S := fun _ => False) hb).row id h1, h2.fr (Fr.of_below (S := fun _ => False) hb) id, h3, fun j p l hp hl => ?_⟩, h.pos⟩
  obtain ⟨A, c, hla, hap⟩ := h4 j p l hp hl
  exact ⟨A, c, hla.below hb, hap⟩
theorem planA_def (N : Int) : planA N = #[.int .i64 N, .int .i64 (pLog N), .int .i64 (2 + pLog N), .int .i64 (pData N), .int .i64 (pHalf N), .int .i64 (pLeaves N), .int .i64 (pCap N)] := rfl
def NowRes (l : List Itm) (w : World) (e : Ending) (w' : World) : Prop := ∃ p A c, e = .returned (.pointer (some ⟨p, 0, none⟩)) ∧ LeafAt w' p A c l ∧ Below w.heap.size w w'
/-- what the last one is -/
theorem ModelAt.last {w : World} {bm g : Nat} {N : Int} {ls : List (List Itm)} (h : ModelAt w bm g N ls) {l : List Itm} (hl : ls[ls.length - 1]? = some l) : ∃ off n cap p A c, w.cell? ⟨bm, 7, none⟩ = some (.slice (some ⟨g, off, none⟩) (n + 1) cap) ∧ n + 1 = ls.length ∧ n + 1 ≤ cap ∧ cap ≤ maxLen ∧ w.cell? ⟨g, off + n, none⟩ = some (.pointer (some ⟨p, 0, none⟩)) ∧ LeafAt w p A c l := by
  obtain ⟨off, n, cap, ps, h1, h2, h3, h4⟩ := h.row
  have hp := h.pos
  have hn : n = ls.length := by rw [← h2.len, h3]
  obtain ⟨p, hps⟩ := get_lt (l := ps) (i := ls.length - 1) (by omega)
  obtain ⟨A, c, hla, _⟩ := h4 _ p l hps hl
  refine ⟨off, ls.length - 1, cap, p, A, c, ?_, by omega, by have := h2.le; omega, h2.cm, h2.cell hps, hla⟩
  rw [Lib.cell_of_heap h1, show ls.length - 1 + 1 = n by omega]
  rfl
set_option maxRecDepth 100000 in
theorem now_any (bm g : Nat) (N : Int) (ls : List (List Itm)) (l : List Itm) (w : World) (h : ModelAt w bm g N ls) (hl : ls[ls.length - 1]? = some l) (hn : ls.length ≤ 100000) : Calls Tryz.prog 48 #[.pointer (some ⟨bm, 0, none⟩)] w (NowRes l w) := by
  obtain ⟨off, n, cap, p, A, c, c7, hn1, hnc, hcm, cp, hla⟩ := h.last hl
  have HLA := Lib.hid hla
  have hw1 : IntKind.i64.wrap ((n : Int) + 1 - 1) = (n : Int) := by rw [IntKind.wrap_i64]; omega
  have hw2 : IntKind.i64.wrap (n : Int) = (n : Int) := by rw [IntKind.wrap_i64]; omega
  have hnI : (n : Int) < (n : Int) + 1 := by omega
  have hnI2 : (n : Int) ≤ 100000 := by omega
  clear h hl hla hn1 hcm
  go_enter Tryz.func48, Tryz.ntmps48
  go_wp2
  go_quiet (fail)
  go_wp2
  go_ret
  exact ⟨p, A, c, rfl, HLA.out.below (below_drewN (Below.refl _ w) _), below_drewN (Below.refl _ w) _⟩
theorem L_info : (Tryz.prog.info? 98).map (fun i => (i.zero, i.size, i.bytes)) = some (some (.pointer none), 1, 8) := by kernel_rfl
/-- a leaf more behind the others -/
theorem rows_append {ops : Array Oper} {rest : List Oper} {o : Oper} {a : Act} {w : World} {Q : Exit → Act → World → Prop} (hgd : o.guard = none) (N : Option Tmp) (hN : o.dst = N) (s x : Operand) (ho : o.op = .call { callee := .builtin .append, args := #[s, x], argTypes := #[100, 100] })
    (g off n cap vb p c : Nat) (ps : List Nat) (hs : a.eval s = .slice (some ⟨g, off, none⟩) n cap) (hx : a.eval x = .slice (some ⟨vb, 0, none⟩) 1 c) (hr : RowsAt w g off n cap ps) (hp : w.cell? ⟨vb, 0, none⟩ = some (.pointer (some ⟨p, 0, none⟩))) (hn : n ≤ 100000)
    (h : ∀ g' off' cap' w', RowsAt w' g' off' (n + 1) cap' (ps ++ [p]) → (g' = g ∨ w.heap.size ≤ g') → Fr (fun k => k = g) w w' → wpList Tryz.prog ops Q rest (a.put N (.slice (some ⟨g', off', none⟩) (n + 1) cap')) w') : wpList Tryz.prog ops Q (o :: rest) a w := by
  subst hN
  obtain ⟨i0, hi0, hz0, hz1, hz2⟩ := info_parts L_info
  obtain ⟨cur, hg, hfit, hcur⟩ := hr.blk
  have hlen := hr.len
  have hnews : ∀ j u, ([.pointer (some ⟨p, 0, none⟩)] : List Value)[j]? = some u → w.cell? ((⟨vb, 0, none⟩ : Addr).add j) = some u := by
    intro j u hj
    rcases j with _ | j
    · rw [Addr.add_mid]
      simp at hj
      subst hj
      exact hp
    · simp at hj
  have hone : ∀ u ∈ ([.pointer (some ⟨p, 0, none⟩)] : List Value), u.oneCell' = true := by
    intro u hu
    simp at hu
    subst hu
    rfl
  refine wpList_plain hgd fun K hK => ?_
  by_cases hroom : n + 1 ≤ cap
  · have hr2 := run_append_room_cells (P := Tryz.prog) w 100 o.type 98 i0 Tryz.underlying100 hi0 g off n cap ⟨vb, 0, none⟩ 1 c [.pointer (some ⟨p, 0, none⟩)] (by rw [hz1]; rfl) hnews hone hroom
      (by rw [hz1]; intro j hj; rw [Lib.cell_of_heap hg]; simp at hj ⊢; omega) (fun j _ => Lib.frozen_of_heap hg _)
    rw [hz1, Nat.mul_one] at hr2
    refine oper_runTo o.dst rfl _ _ (by
      unfold execOp
      simp only [ho, resolve, invoke, builtin, Sem.run_bind, Sem.run_pure, Result.andThen_ok, List.map_toArray, List.map_cons, List.map_nil, hs, hx]
      rw [hr2]
      rfl) (hK _ _ (h g off cap _ ⟨by simp [hlen], ⟨cur.set (off + n) (.pointer (some ⟨p, 0, none⟩)), ?_, by simpa using hfit, ?_⟩, hroom, hr.cm⟩ (.inl rfl) ?_))
    · have := setCell_row hg (off + n) (.pointer (some ⟨p, 0, none⟩))
      simpa [World.setCells] using this
    · intro j q hq
      by_cases hj : j < n
      · rw [List.getElem?_append_left (by omega)] at hq
        rw [List.getElem?_set_ne (by omega)]
        exact hcur j q hq
      · rw [List.getElem?_append_right (by omega)] at hq
        have hj2 : j = n := by
          by_cases e : j = n
          · exact e
          · rw [List.getElem?_eq_none (by simp; omega)] at hq
            cases hq
        subst hj2
        rw [hlen, Nat.sub_self] at hq
        simp at hq
        subst hq
        rw [List.getElem?_set_self (by omega)]
    · exact setCells_is_fr g _ w (off + n)
  · have hle := hr.le
    have hcn : cap = n := by omega
    have hsplit : (cur.drop off).take n = (cur.drop off).take n := rfl
    obtain ⟨v', w', hr2, hown, hgr⟩ := run_append_arg_grows (P := Tryz.prog) w 100 o.type 98 i0 (.pointer none) 1 8 Tryz.underlying100 hi0 hz0 hz1 hz2 rfl (by decide) ⟨g, off, none⟩ n cap ((cur.drop off).take n) (by rw [List.length_take, List.length_drop]; omega)
      (by
        intro j u hj
        rw [List.getElem?_take] at hj
        split at hj
        · rw [List.getElem?_drop] at hj
          rw [Addr.add_lit, Lib.cell_of_heap hg]
          simpa using hj
        · cases hj) ⟨vb, 0, none⟩ 1 c [.pointer (some ⟨p, 0, none⟩)] rfl hnews (by omega) (by unfold maxLen; omega) (by omega)
    rcases hown.2 with ⟨_, h0⟩ | ⟨g', cap', cur', hv', hb', hgg, hc1, hc2, hc3, htake⟩
    · omega
    · subst hv'
      refine oper_runTo o.dst rfl _ _ (by
        unfold execOp
        simp only [ho, resolve, invoke, builtin, Sem.run_bind, Sem.run_pure, Result.andThen_ok, List.map_toArray, List.map_cons, List.map_nil, hs, hx]
        rw [hr2]
        rfl) (hK _ _ (h g' 0 cap' w' ⟨by simp [hlen], ⟨cur'.toList, by simpa using hgg, by simp; omega, ?_⟩, hc1, hc2⟩ (.inr hb') ((Fr.refl _ w).grown hgr (fun i _ e => by cases e))))
      intro j q hq
      have hjl := (List.getElem?_eq_some_iff.1 hq).1
      have hjn : j < n + 1 := by simp [hlen] at hjl; omega
      have : (cur'.toList.take ((n + 1) * 1))[j]? = some (.pointer (some ⟨q, 0, none⟩)) := by
        rw [htake]
        by_cases hj : j < n
        · rw [List.getElem?_append_left (by omega)] at hq
          rw [List.getElem?_append_left (by rw [List.length_take, List.length_drop]; omega), List.getElem?_take, if_pos hj, List.getElem?_drop]
          exact hcur j q hq
        · have hj2 : j = n := by omega
          subst hj2
          rw [List.getElem?_append_right (by omega), hlen, Nat.sub_self] at hq
          simp at hq
          subst hq
          rw [List.getElem?_append_right (by rw [List.length_take, List.length_drop]; omega), List.length_take, List.length_drop, Nat.min_eq_left (by omega), Nat.sub_self]
          rfl
      rw [List.getElem?_take, if_pos (by omega)] at this
      rw [Nat.zero_add]
      exact this
end Go.Proofs.YtdfgdnaejnngoaaGreat
namespace Go.Proofs.YtdfgdnaejnngoaaGreat
open Go.RowKit
/-! model.update. -/
/-- slots, each with its value -/
def putAll : List Tmp → List Value → Act → Act
  | i :: is, v :: vs, a => putAll is vs (a.put (some i) v)
  | _, _, a => a
/-- what a region leaves, its ways taken together: the slots that it fills, and the facts -/
def cutQ (slots : List Tmp) (a : Act) (F : List Value → World → Prop) : Exit → Act → World → Prop := fun e a' w' => match e with
  | .normal => ∃ vs, F vs w' ∧ a' = putAll slots vs a
  | _ => False
theorem region_cut {P : Program} {c : Code} {Q : Exit → Act → World → Prop} {a : Act} {w : World} (slots : List Tmp) (F : List Value → World → Prop) (hreg : c.wp P (cutQ slots a F) a w)
    (hrest : ∀ vs w', F vs w' → Q .normal (putAll slots vs a) w') : c.wp P Q a w :=
  Code.wp_mono (fun e a' w' h => by
    cases e with
    | normal =>
      obtain ⟨vs, h2, rfl⟩ := h
      exact hrest vs w' h2
    | _ => exact h.elim) hreg
theorem oper_msg {o : Oper} {a : Act} {w : World} {K : Act → World → Prop} {Q : Exit → Act → World → Prop} (N : Option Tmp) (hN : o.dst = N) (y : Operand) (x : Mg) (ho : o.op = .buildSlice 115 1 #[(0, y)]) (hy : a.eval y = x.v)
    (h : ∀ g w', (∀ j u, x.cells[j]? = some u → w'.cell? ⟨g, j, none⟩ = some u) → w.heap.size ≤ g → g < w'.heap.size → Below w.heap.size w w' → K (a.put N (.slice (some ⟨g, 0, none⟩) 1 1)) w') : Oper.wp Tryz.prog o a w K Q := by
  have hr : (Instr.buildSlice 115 1 #[(0, x.v)]).run Tryz.prog w = .ok (.slice (some ⟨w.heap.size, 0, none⟩) 1 1) (w.alloc (.cells x.cells.toArray 90)) := by kernel_rfl
  refine oper_runTo N hN (.slice (some ⟨w.heap.size, 0, none⟩) 1 1) (w.alloc (.cells x.cells.toArray 90)) ?_ (h _ _ (fun j u hu => by rw [Lib.cell_of_heap (heap_alloc_new w _)]; simpa using hu) (Nat.le_refl _) (by simp) (below_alloc (Below.refl _ w)))
  unfold execOp
  simp only [ho, List.map_toArray, List.map_nil, List.map_cons, hy, Sem.run_bind, hr, Result.andThen_ok, Sem.run_pure]
def WithRes (l : List Itm) (x : Mg) (w : World) (e : Ending) (w' : World) : Prop := Below w.heap.size w w' ∧ ∃ q r, e = .returned (.tuple #[q, .int .i64 r]) ∧ ((isMsg x = false ∧ r = 1) ∨ (isMsg x = true ∧ r = 0 ∧ ∃ b' A' c', q = .pointer (some ⟨b', 0, none⟩) ∧ LeafAt w' b' A' c' (doL l x) ∧ w.heap.size ≤ b' ∧ ∀ ad, A' = some ad → w.heap.size ≤ ad.block))
theorem with_one (p c vb : Nat) (A : Option Addr) (l : List Itm) (x : Mg) (w : World) (h : LeafAt w p A c l) (hl : l.length ≤ 70000) (hx : ∀ j u, x.cells[j]? = some u → w.cell? ⟨vb, j, none⟩ = some u) (hv : vb < w.heap.size) :
    Calls Tryz.prog 58 #[.pointer (some ⟨p, 0, none⟩), .slice (some ⟨vb, 0, none⟩) 1 1] w (WithRes l x w) := by
  have hm : Elems w (some ⟨vb, 0, none⟩) 3 ([x].map Mg.cells) := by
    intro i r hr
    rcases i with _ | i
    · simp at hr
      subst hr
      exact ⟨vb, 0, rfl, hv, fun j u hu => by rw [show 0 + 0 * 3 + j = j by omega]; exact hx j u hu⟩
    · simp at hr
  cases hg : isMsg x with
  | false =>
    refine (with_bad p c 1 A (some ⟨vb, 0, none⟩) l [x] w hm (by simp) (by simp [hg])).mono ?_
    rintro e w' ⟨rfl, hb⟩
    exact ⟨hb, _, _, rfl, .inl ⟨hg, rfl⟩⟩
  | true =>
    refine (with_ok p c 1 A (some ⟨vb, 0, none⟩) l [x] w h hl hm (by simp) (by simp [hg])).mono ?_
    rintro e w' ⟨b', A', c', rfl, hla, hle, hfr, hb⟩
    exact ⟨hb, _, _, rfl, .inr ⟨hg, rfl, b', A', c', rfl, hla, hle, hfr⟩⟩
def addsU (c : Int) (now : List Itm) (m : Mg) : Bool := decide (errU c now m = 0) && !(decide (m.kind = 2) && decide (getL now m.key = none))
def rowsU (c : Int) (ls : List (List Itm)) (now : List Itm) (m : Mg) : List (List Itm) := if addsU c now m = true then ls ++ [doL now m] else ls
def UpdRes (bm g : Nat) (N : Int) (err : Int) (ls' : List (List Itm)) (w : World) (e : Ending) (w' : World) : Prop := e = .returned (.int .i64 err) ∧ ∃ g', ModelAt w' bm g' N ls' ∧ (g' = g ∨ w.heap.size ≤ g') ∧ Fr (fun k => k = bm ∨ k = g) w w'
theorem upd_keep {w w' : World} {bm g : Nat} {N err : Int} {ls : List (List Itm)} (h : ModelAt w bm g N ls) (hb : Below w.heap.size w w') : UpdRes bm g N err ls w (.returned (.int .i64 err)) w' := ⟨rfl, g, h.below hb, .inl rfl, Fr.of_below hb⟩
/-- a leaf more -/
theorem model_add {w w2 w7 : World} {bm g off n cap b' g' off' cap' c' : Nat} {N : Int} {ls : List (List Itm)} {ps : List Nat} {A' : Option Addr} {l' : List Itm} (hbm : w.heap[bm]? = some (.cells (planA N ++ #[.slice (some ⟨g, off, none⟩) n cap]) 102 (0, 0)))
    (hra : RowsAt w g off n cap ps) (hps : ps.length = ls.length) (hlv : ∀ (j p : Nat) (l : List Itm), ps[j]? = some p → ls[j]? = some l → ∃ A c, LeafAt w p A c l ∧ Apart A l bm g) (hb : Below w.heap.size w w2)
    (hr7 : RowsAt w7 g' off' (n + 1) cap' (ps ++ [b'])) (hg' : g' = g ∨ w2.heap.size ≤ g') (hF : Fr (fun k => k = g) w2 w7) (hla : LeafAt w2 b' A' c' l') (hle : w.heap.size ≤ b') (hfr : ∀ ad, A' = some ad → w.heap.size ≤ ad.block) :
    UpdRes bm g N 0 (ls ++ [l']) w (.returned (.int .i64 0)) (w7.setCell ⟨bm, 7, none⟩ (.slice (some ⟨g', off', none⟩) (n + 1) cap')) := by
  obtain ⟨cur, hgr, _⟩ := hra.blk
  have hgb : bm ≠ g := kinds_ne hbm hgr (by decide)
  have hbl : bm < w.heap.size := lt_of_row hbm
  have hgl : g < w.heap.size := lt_of_row hgr
  have hsz := hb.size
  have hg'b : ¬ g' = bm := by rcases hg' with e | e <;> omega
  have hbm7 := hF.row (fun e => hgb e) ((Fr.of_below (S := fun _ => False) hb).row id hbm)
  have hF8 : Fr (fun k => k = bm) w7 (w7.setCell ⟨bm, 7, none⟩ (.slice (some ⟨g', off', none⟩) (n + 1) cap')) := by
    have h := (Fr.refl (fun k => k = bm) w7).setCell (p := ⟨bm, 7, none⟩) (fun _ => rfl) (.slice (some ⟨g', off', none⟩) (n + 1) cap')
    exact h
  have hF28 : Fr (fun k => k = bm ∨ k = g) w2 (w7.setCell ⟨bm, 7, none⟩ (.slice (some ⟨g', off', none⟩) (n + 1) cap')) := (hF.mono (fun k _ e => .inr e)).tr (hF8.mono (fun k _ e => .inl e))
  have hFw : Fr (fun k => k = bm ∨ k = g) w (w7.setCell ⟨bm, 7, none⟩ (.slice (some ⟨g', off', none⟩) (n + 1) cap')) := (Fr.of_below hb).tr hF28
  refine ⟨rfl, g', ⟨⟨off', n + 1, cap', ps ++ [b'], ?_, hr7.fr hF8 hg'b, by simp [hps], ?_⟩, by simp⟩, ?_, hFw⟩
  · have hpa : (planA N ++ #[.slice (some ⟨g, off, none⟩) n cap]) = ([.int .i64 N, .int .i64 (pLog N), .int .i64 (2 + pLog N), .int .i64 (pData N), .int .i64 (pHalf N), .int .i64 (pLeaves N), .int .i64 (pCap N), .slice (some ⟨g, off, none⟩) n cap] : List Value).toArray := rfl
    rw [hpa] at hbm7
    exact setCell_row hbm7 7 (.slice (some ⟨g', off', none⟩) (n + 1) cap')
  · intro j p l hp hl
    by_cases hj : j < ls.length
    · rw [List.getElem?_append_left (by omega)] at hp
      rw [List.getElem?_append_left hj] at hl
      obtain ⟨A, c, hlw, hap⟩ := hlv j p l hp hl
      have h1 : p ≠ bm := kinds_ne hlw.cell hbm (by decide)
      have h2 : p ≠ g := kinds_ne hlw.cell hgr (by decide)
      refine ⟨A, c, hlw.fr hFw (by rintro (e | e); exact h1 e; exact h2 e) (fun hn ad e => ?_), fun hn ad e => ?_⟩
      · have := hap hn ad e
        rintro (e | e)
        · exact this.1 e
        · exact this.2 e
      · have h3 := hap hn ad e
        have h4 := hlw.alt hn e
        refine ⟨h3.1, ?_⟩
        rcases hg' with e | e
        · rw [e]; exact h3.2
        · omega
    · have hjl := (List.getElem?_eq_some_iff.1 hl).1
      simp at hjl
      obtain rfl : j = ls.length := by omega
      rw [List.getElem?_append_right (by omega), hps, Nat.sub_self] at hp
      rw [List.getElem?_append_right (by omega), Nat.sub_self] at hl
      simp at hp hl
      subst hp hl
      refine ⟨A', c', hla.fr hF28 (by rintro (e | e) <;> omega) (fun hn ad e => ?_), fun hn ad e => ?_⟩
      · have := hfr ad e
        rintro (e | e) <;> omega
      · have := hfr ad e
        have h4 := hla.alt hn e
        refine ⟨by omega, ?_⟩
        rcases hg' with e | e <;> omega
  · rcases hg' with e | e
    · exact .inl e
    · exact .inr (by omega)
end Go.Proofs.YtdfgdnaejnngoaaGreat
namespace Go.Proofs.YtdfgdnaejnngoaaGreat
open Go.RowKit
def MRow (bm : Nat) (N : Int) (s : Value) (w : World) : Prop := w.heap[bm]? = some (.cells (planA N ++ #[s]) 102 (0, 0))
theorem MRow.below {w w' : World} {bm : Nat} {N : Int} {s : Value} (h : MRow bm N s w) (hb : Below w.heap.size w w') : MRow bm N s w' := (Fr.of_below (S := fun _ => False) hb).row id h
theorem plan_cells {w : World} {bm : Nat} {N : Int} {s : Value} (h : MRow bm N s w) :
    w.cell? ⟨bm, 0, none⟩ = some (.int .i64 N) ∧ w.cell? ⟨bm, 1, none⟩ = some (.int .i64 (pLog N)) ∧ w.cell? ⟨bm, 2, none⟩ = some (.int .i64 (2 + pLog N)) ∧ w.cell? ⟨bm, 3, none⟩ = some (.int .i64 (pData N)) ∧ w.cell? ⟨bm, 4, none⟩ = some (.int .i64 (pHalf N)) ∧ w.cell? ⟨bm, 5, none⟩ = some (.int .i64 (pLeaves N)) ∧ w.cell? ⟨bm, 6, none⟩ = some (.int .i64 (pCap N)) ∧ w.cell? ⟨bm, 7, none⟩ = some s := by
  refine ⟨?_, ?_, ?_, ?_, ?_, ?_, ?_, ?_⟩ <;> (rw [Lib.cell_of_heap h]; rfl)
set_option maxHeartbeats 2000000 in
set_option maxRecDepth 100000 in
theorem update_any (bm g : Nat) (N : Int) (ls : List (List Itm)) (l : List Itm) (x : Mg) (w : World) (h : ModelAt w bm g N ls) (hl : ls[ls.length - 1]? = some l) (hn : ls.length ≤ 90000) (hln : l.length ≤ 60000) :
    Calls Tryz.prog 45 #[.pointer (some ⟨bm, 0, none⟩), x.v] w (UpdRes bm g N (errU (pCap N) l x) (rowsU (pCap N) ls l x) w) := by
  have hri : Rises l := by
    obtain ⟨_, _, _, _, _, _, _, _, _, _, _, hla⟩ := h.last hl
    exact hla.rises
  have hnow : ∀ W, Below w.heap.size w W → Calls Tryz.prog 48 #[.pointer (some ⟨bm, 0, none⟩)] W (NowRes l W) := fun W hW => now_any bm g N ls l W (h.below hW) hl (by omega)
  have hfi := fun p A c W (hla : LeafAt W p A c l) => find_any p c A l x.key W hla (by omega)
  rw [find_get _ hri] at hfi
  have hwi := fun p A c vb W (hla : LeafAt W p A c l) hx hv => with_one p c vb A l x W hla (by omega) hx hv
  have hlen : (doL l x).length ≤ 60001 := by have := put_len hri x.key (applyO x (getL l x.key)); unfold doL; omega
  obtain ⟨off, n, cap, ps, hrow, hra, hps, hlv⟩ := h.row
  have hpn := hra.len
  obtain ⟨E, hE⟩ : ∃ E, errU (pCap N) l x = E := ⟨_, rfl⟩
  obtain ⟨R, hR⟩ : ∃ R, rowsU (pCap N) ls l x = R := ⟨_, rfl⟩
  rw [hE, hR]
  have HU := Lib.hid hE
  have HR := Lib.hid hR
  clear hE hR
  have HM := Lib.hid h
  have HN := Lib.hid hnow
  have HF := Lib.hid hfi
  have HW := Lib.hid hwi
  have HRW := Lib.hid hrow
  have HRA := Lib.hid hra
  have HPS := Lib.hid hps
  have HLV := Lib.hid hlv
  have hxv := Mg.v_def x
  have hn' : n ≤ 90000 := by omega
  clear hnow hfi hwi h hl hri hrow hra hps hlv
  generalize hkd : x.kind = kind at *
  generalize hky : x.key = key at *
  generalize hvl : x.val = val at *
  rw [hxv]
  have HXV := Lib.hid hxv
  generalize hG : getL l key = G at *
  clear hxv
  go_enter Tryz.func45, Tryz.ntmps45
  go_wp2
  have B0 : Below w.heap.size w (w.alloc (.cells #[.int .i64 kind, .string key, .string val] 90)) := below_alloc (Below.refl _ w)
  have c0 : (w.alloc (.cells #[.int .i64 kind, .string key, .string val] 90)).cell? ⟨w.heap.size, 0, none⟩ = some (.int .i64 kind) := by rw [Lib.cell_of_heap (heap_alloc_new w _)]; rfl
  have c1 : (w.alloc (.cells #[.int .i64 kind, .string key, .string val] 90)).cell? ⟨w.heap.size, 1, none⟩ = some (.string key) := by rw [Lib.cell_of_heap (heap_alloc_new w _)]; rfl
  have c2 : (w.alloc (.cells #[.int .i64 kind, .string key, .string val] 90)).cell? ⟨w.heap.size, 2, none⟩ = some (.string val) := by rw [Lib.cell_of_heap (heap_alloc_new w _)]; rfl
  have hxl : w.heap.size < (w.alloc (.cells #[.int .i64 kind, .string key, .string val] 90)).heap.size := by simp
  refine rg_start (n := 10) (fun w' => Below w.heap.size w w' ∧ w'.cell? ⟨w.heap.size, 0, none⟩ = some (.int .i64 kind) ∧ w'.cell? ⟨w.heap.size, 1, none⟩ = some (.string key) ∧ w'.cell? ⟨w.heap.size, 2, none⟩ = some (.string val) ∧ w.heap.size < w'.heap.size) #[false, false, false, false, false, false, false, false, false, false] (by kernel_rfl) rfl rfl ⟨B0.drew, c0, c1, c2, hxl⟩ (fun hHeld => ?_)
  refine rg_take (i := 0) (N := (some 12)) (v := ?_) (a' := ?_) #[true, false, false, false, false, false, false, false, false, false] rfl rfl (by kernel_rfl) (fun _ _ _ h => h) (by rfl) ?_ hHeld ?_ ?_
  rotate_left 2
  · rintro w' ⟨s0, s1, s2, s3, s4⟩
    go_simp
    try with_reducible rfl
  · simp only [Act.put, List.setIfInBounds_toArray, List.set_cons_zero, List.set_cons_succ]
    rfl
  refine rg_take (i := 2) (N := (some 14)) (v := ?_) (a' := ?_) #[true, false, true, false, false, false, false, false, false, false] rfl rfl (by kernel_rfl) (fun _ _ _ h => h) (by rfl) ?_ hHeld ?_ ?_
  rotate_left 2
  · rintro w' ⟨s0, s1, s2, s3, s4⟩
    go_simp
    try with_reducible rfl
  · simp only [Act.put, List.setIfInBounds_toArray, List.set_cons_zero, List.set_cons_succ]
    rfl
  refine rg_take (i := 3) (N := (some 15)) (v := ?_) (a' := ?_) #[true, false, true, true, false, false, false, false, false, false] rfl rfl (by kernel_rfl) (fun _ _ _ h => h) (by rfl) ?_ hHeld ?_ ?_
  rotate_left 2
  · rintro w' ⟨s0, s1, s2, s3, s4⟩
    go_simp
    try with_reducible rfl
  · simp only [Act.put, List.setIfInBounds_toArray, List.set_cons_zero, List.set_cons_succ]
    rfl
  refine rg_one (i := 1) #[true, true, true, true, false, false, false, false, false, false] rfl (by kernel_rfl) (by rfl) (fun K hK => ?_)
  obtain ⟨s0, s1, s2, s3, s4⟩ := hHeld
  repeat go_step
  ((with_reducible refine (HN.out _ s0).mono ?_); rintro e w1 ⟨p, A, c, rfl, hla, hb1⟩)
  try dsimp only
  refine hK.out _ _ ?_ (fun hHeld => ?_)
  · (repeat (first | (with_reducible assumption) | (with_reducible apply And.intro) | (with_reducible refine keep_cell (w := ?_) ?_ ?_ ?_; rotate_left; with_reducible assumption) | (with_reducible refine keep_cell_alloc ?_ ?_) | (with_reducible refine keep_lt (w := ?_) ?_ ?_; rotate_left; with_reducible assumption) | (with_reducible refine keep_lt_alloc ?_) | (with_reducible refine below_next (w := ?_) ?_ ?_; rotate_left 2; with_reducible assumption) | (with_reducible refine below_alloc ?_) | (with_reducible refine Below.drew ?_) | (with_reducible refine keep_lt_drew ?_) | (with_reducible refine keep_cell_drew ?_)))
  clear hK K
  clear s0 s1 s2 s3 s4
  refine rg_one (i := 4) #[true, true, true, true, true, false, false, false, false, false] rfl (by kernel_rfl) (by rfl) (fun K hK => ?_)
  obtain ⟨s0, s1, s2, s3, s4⟩ := hHeld
  repeat go_step
  ((with_reducible refine (HF.out p A c _ hla).mono ?_); rintro e w2 ⟨rfl, hb2⟩)
  try dsimp only
  refine hK.out _ _ ?_ (fun hHeld => ?_)
  · (repeat (first | (with_reducible assumption) | (with_reducible apply And.intro) | (with_reducible refine keep_cell (w := ?_) ?_ ?_ ?_; rotate_left; with_reducible assumption) | (with_reducible refine keep_cell_alloc ?_ ?_) | (with_reducible refine keep_lt (w := ?_) ?_ ?_; rotate_left; with_reducible assumption) | (with_reducible refine keep_lt_alloc ?_) | (with_reducible refine below_next (w := ?_) ?_ ?_; rotate_left 2; with_reducible assumption) | (with_reducible refine below_alloc ?_) | (with_reducible refine Below.drew ?_) | (with_reducible refine keep_lt_drew ?_) | (with_reducible refine keep_cell_drew ?_)))
  clear hK K
  clear s0 s1 s2 s3 s4
  refine rg_take (i := 5) (N := (some 11)) (v := ?_) (a' := ?_) #[true, true, true, true, true, true, false, false, false, false] rfl rfl (by kernel_rfl) (fun _ _ _ h => h) (by rfl) ?_ hHeld ?_ ?_
  rotate_left 2
  · rintro w' ⟨s0, s1, s2, s3, s4⟩
    go_simp
    try with_reducible rfl
  · simp only [Act.put, List.setIfInBounds_toArray, List.set_cons_zero, List.set_cons_succ]
    rfl
  refine rg_take (i := 6) (N := (some 17)) (v := ?_) (a' := ?_) #[true, true, true, true, true, true, true, false, false, false] rfl rfl (by kernel_rfl) (fun _ _ _ h => h) (by rfl) ?_ hHeld ?_ ?_
  rotate_left 2
  · rintro w' ⟨s0, s1, s2, s3, s4⟩
    go_simp
    try with_reducible rfl
  · simp only [Act.put, List.setIfInBounds_toArray, List.set_cons_zero, List.set_cons_succ]
    rfl
  refine rg_take (i := 7) (N := (some 18)) (v := ?_) (a' := ?_) #[true, true, true, true, true, true, true, true, false, false] rfl rfl (by kernel_rfl) (fun _ _ _ h => h) (by rfl) ?_ hHeld ?_ ?_
  rotate_left 2
  · rintro w' ⟨s0, s1, s2, s3, s4⟩
    go_simp
    try with_reducible rfl
  · simp only [Act.put, List.setIfInBounds_toArray, List.set_cons_zero, List.set_cons_succ]
    rfl
  refine rg_take (i := 8) (N := (some 5)) (v := ?_) (a' := ?_) #[true, true, true, true, true, true, true, true, true, false] rfl rfl (by kernel_rfl) (fun _ _ _ h => h) (by rfl) ?_ hHeld ?_ ?_
  rotate_left 2
  · rintro w' ⟨s0, s1, s2, s3, s4⟩
    go_simp
    try with_reducible rfl
  · simp only [Act.put, List.setIfInBounds_toArray, List.set_cons_zero, List.set_cons_succ]
    rfl
  refine rg_take (i := 9) (N := (some 6)) (v := ?_) (a' := ?_) #[true, true, true, true, true, true, true, true, true, true] rfl rfl (by kernel_rfl) (fun _ _ _ h => h) (by rfl) ?_ hHeld ?_ ?_
  rotate_left 2
  · rintro w' ⟨s0, s1, s2, s3, s4⟩
    go_simp
    try with_reducible rfl
  · simp only [Act.put, List.setIfInBounds_toArray, List.set_cons_zero, List.set_cons_succ]
    rfl
  refine rg_done (by kernel_rfl) ?_
  obtain ⟨s0, s1, s2, s3, s4⟩ := hHeld
  go_wp2
  refine region_cut [20, 21, 22, 23, 24, 19, 25, 26, 7, 8] (fun vs w' => ∃ x0 x1 x2 x3 x4 x5 q r, vs = [x0, x1, x2, x3, x4, x5, q, .int .i64 r, q, .int .i64 r] ∧ ((isMsg x = false ∧ r = 1) ∨ (isMsg x = true ∧ r = 0 ∧ ∃ b' A' c', q = .pointer (some ⟨b', 0, none⟩) ∧ LeafAt w' b' A' c' (doL l x) ∧ w.heap.size ≤ b' ∧ ∀ ad, A' = some ad → w.heap.size ≤ ad.block)) ∧ Below w.heap.size w w' ∧ w'.cell? ⟨w.heap.size, 0, none⟩ = some (.int .i64 kind)) ?_ ?_
  · skip
    refine rg_start (n := 10) (fun w' => Below w.heap.size w w' ∧ w'.cell? ⟨w.heap.size, 0, none⟩ = some (.int .i64 kind) ∧ w'.cell? ⟨w.heap.size, 1, none⟩ = some (.string key) ∧ w'.cell? ⟨w.heap.size, 2, none⟩ = some (.string val) ∧ w.heap.size < w'.heap.size) #[false, false, false, false, false, false, false, false, false, false] (by kernel_rfl) rfl rfl ⟨s0.drew, s1, s2, s3, s4⟩ (fun hHeld => ?_)
    refine rg_take (i := 0) (N := (some 20)) (v := ?_) (a' := ?_) #[true, false, false, false, false, false, false, false, false, false] rfl rfl (by kernel_rfl) (fun _ _ _ h => h) (by rfl) ?_ hHeld ?_ ?_
    rotate_left 2
    · rintro w' ⟨s0, s1, s2, s3, s4⟩
      go_simp
      try with_reducible rfl
    · simp only [Act.put, List.setIfInBounds_toArray, List.set_cons_zero, List.set_cons_succ]
      rfl
    refine rg_take (i := 2) (N := (some 22)) (v := ?_) (a' := ?_) #[true, false, true, false, false, false, false, false, false, false] rfl rfl (by kernel_rfl) (fun _ _ _ h => h) (by rfl) ?_ hHeld ?_ ?_
    rotate_left 2
    · rintro w' ⟨s0, s1, s2, s3, s4⟩
      go_simp
      try with_reducible rfl
    · simp only [Act.put, List.setIfInBounds_toArray, List.set_cons_zero, List.set_cons_succ]
      rfl
    refine rg_two (i := 1) (j := 3) #[true, true, true, false, false, false, false, false, false, false] #[true, false, true, true, false, false, false, false, false, false] rfl rfl (by kernel_rfl) (by rfl) (by rfl) (fun K hK => ?_) (fun K hK => ?_)
    · skip
      obtain ⟨s0, s1, s2, s3, s4⟩ := hHeld
      repeat go_step
      ((with_reducible refine (HN.out _ s0).mono ?_); rintro e w3 ⟨p3, A3, c3, rfl, hla3, hb3⟩; (try have hx4 : ∀ j u, x.cells[j]? = some u → w3.cell? ⟨g4, j, none⟩ = some u := fun j u hu => keep_cell hb3 hg4 (hx4 j u hu)); (try have hg4 := keep_lt hb3 hg4))
      try dsimp only
      refine hK.out _ _ ?_ (fun hHeld => ?_)
      · (repeat (first | (with_reducible assumption) | (with_reducible apply And.intro) | (with_reducible refine keep_cell (w := ?_) ?_ ?_ ?_; rotate_left; with_reducible assumption) | (with_reducible refine keep_cell_alloc ?_ ?_) | (with_reducible refine keep_lt (w := ?_) ?_ ?_; rotate_left; with_reducible assumption) | (with_reducible refine keep_lt_alloc ?_) | (with_reducible refine below_next (w := ?_) ?_ ?_; rotate_left 2; with_reducible assumption) | (with_reducible refine below_alloc ?_) | (with_reducible refine Below.drew ?_) | (with_reducible refine keep_lt_drew ?_) | (with_reducible refine keep_cell_drew ?_)))
      clear hK K
      clear s0 s1 s2 s3 s4
      refine rg_one (i := 3) #[true, true, true, true, false, false, false, false, false, false] rfl (by kernel_rfl) (by rfl) (fun K hK => ?_)
      obtain ⟨s0, s1, s2, s3, s4⟩ := hHeld
      (refine oper_msg (some 23) rfl (Operand.tmp 22) x rfl HXV.out.symm ?_; intro g4 w4 hx4 hz4 hg4 hb4; (try have hla3 := hla3.below hb4); simp only [Act.put, List.setIfInBounds_toArray, List.set_cons_zero, List.set_cons_succ])
      repeat go_step
      refine hK.out _ _ ?_ (fun hHeld => ?_)
      · (repeat (first | (with_reducible assumption) | (with_reducible apply And.intro) | (with_reducible refine keep_cell (w := ?_) ?_ ?_ ?_; rotate_left; with_reducible assumption) | (with_reducible refine keep_cell_alloc ?_ ?_) | (with_reducible refine keep_lt (w := ?_) ?_ ?_; rotate_left; with_reducible assumption) | (with_reducible refine keep_lt_alloc ?_) | (with_reducible refine below_next (w := ?_) ?_ ?_; rotate_left 2; with_reducible assumption) | (with_reducible refine below_alloc ?_) | (with_reducible refine Below.drew ?_) | (with_reducible refine keep_lt_drew ?_) | (with_reducible refine keep_cell_drew ?_)))
      clear hK K
      clear s0 s1 s2 s3 s4
      refine rg_one (i := 4) #[true, true, true, true, true, false, false, false, false, false] rfl (by kernel_rfl) (by rfl) (fun K hK => ?_)
      obtain ⟨s0, s1, s2, s3, s4⟩ := hHeld
      repeat go_step
      ((with_reducible refine (HW.out p3 A3 c3 g4 _ hla3 hx4 hg4).mono ?_); rintro e w5 ⟨hb5, q, r, rfl, hres⟩; have hres : (isMsg x = false ∧ r = 1) ∨ (isMsg x = true ∧ r = 0 ∧ ∃ b' A' c', q = .pointer (some ⟨b', 0, none⟩) ∧ LeafAt w5 b' A' c' (doL l x) ∧ w.heap.size ≤ b' ∧ ∀ ad, A' = some ad → w.heap.size ≤ ad.block) := (by have hsz := s0.size; rcases hres with hres | ⟨h1, h2, b', A', c', h3, h4, h5, h6⟩; exact .inl hres; exact .inr ⟨h1, h2, b', A', c', h3, h4, Nat.le_trans hsz h5, fun ad e => Nat.le_trans hsz (h6 ad e)⟩))
      try dsimp only
      refine hK.out _ _ ?_ (fun hHeld => ?_)
      · (repeat (first | (with_reducible assumption) | (with_reducible apply And.intro) | (with_reducible refine keep_cell (w := ?_) ?_ ?_ ?_; rotate_left; with_reducible assumption) | (with_reducible refine keep_cell_alloc ?_ ?_) | (with_reducible refine keep_lt (w := ?_) ?_ ?_; rotate_left; with_reducible assumption) | (with_reducible refine keep_lt_alloc ?_) | (with_reducible refine below_next (w := ?_) ?_ ?_; rotate_left 2; with_reducible assumption) | (with_reducible refine below_alloc ?_) | (with_reducible refine Below.drew ?_) | (with_reducible refine keep_lt_drew ?_) | (with_reducible refine keep_cell_drew ?_)))
      clear hK K
      clear s0 s1 s2 s3 s4
      refine rg_take (i := 5) (N := (some 19)) (v := ?_) (a' := ?_) #[true, true, true, true, true, true, false, false, false, false] rfl rfl (by kernel_rfl) (fun _ _ _ h => h) (by rfl) ?_ hHeld ?_ ?_
      rotate_left 2
      · rintro w' ⟨s0, s1, s2, s3, s4⟩
        go_simp
        try with_reducible rfl
      · simp only [Act.put, List.setIfInBounds_toArray, List.set_cons_zero, List.set_cons_succ]
        rfl
      refine rg_take (i := 6) (N := (some 25)) (v := ?_) (a' := ?_) #[true, true, true, true, true, true, true, false, false, false] rfl rfl (by kernel_rfl) (fun _ _ _ h => h) (by rfl) ?_ hHeld ?_ ?_
      rotate_left 2
      · rintro w' ⟨s0, s1, s2, s3, s4⟩
        go_simp
        try with_reducible rfl
      · simp only [Act.put, List.setIfInBounds_toArray, List.set_cons_zero, List.set_cons_succ]
        rfl
      refine rg_take (i := 7) (N := (some 26)) (v := ?_) (a' := ?_) #[true, true, true, true, true, true, true, true, false, false] rfl rfl (by kernel_rfl) (fun _ _ _ h => h) (by rfl) ?_ hHeld ?_ ?_
      rotate_left 2
      · rintro w' ⟨s0, s1, s2, s3, s4⟩
        go_simp
        try with_reducible rfl
      · simp only [Act.put, List.setIfInBounds_toArray, List.set_cons_zero, List.set_cons_succ]
        rfl
      refine rg_take (i := 8) (N := (some 7)) (v := ?_) (a' := ?_) #[true, true, true, true, true, true, true, true, true, false] rfl rfl (by kernel_rfl) (fun _ _ _ h => h) (by rfl) ?_ hHeld ?_ ?_
      rotate_left 2
      · rintro w' ⟨s0, s1, s2, s3, s4⟩
        go_simp
        try with_reducible rfl
      · simp only [Act.put, List.setIfInBounds_toArray, List.set_cons_zero, List.set_cons_succ]
        rfl
      refine rg_take (i := 9) (N := (some 8)) (v := ?_) (a' := ?_) #[true, true, true, true, true, true, true, true, true, true] rfl rfl (by kernel_rfl) (fun _ _ _ h => h) (by rfl) ?_ hHeld ?_ ?_
      rotate_left 2
      · rintro w' ⟨s0, s1, s2, s3, s4⟩
        go_simp
        try with_reducible rfl
      · simp only [Act.put, List.setIfInBounds_toArray, List.set_cons_zero, List.set_cons_succ]
        rfl
      refine rg_done (by kernel_rfl) ?_
      exact ⟨_, ⟨_, _, _, _, _, _, q, r, rfl, hres, hHeld.1, hHeld.2.1⟩, by simp only [putAll, Act.put, List.setIfInBounds_toArray, List.set_cons_zero, List.set_cons_succ]; rfl⟩
    · skip
      obtain ⟨s0, s1, s2, s3, s4⟩ := hHeld
      (refine oper_msg (some 23) rfl (Operand.tmp 22) x rfl HXV.out.symm ?_; intro g4 w4 hx4 hz4 hg4 hb4; (try have hla3 := hla3.below hb4); simp only [Act.put, List.setIfInBounds_toArray, List.set_cons_zero, List.set_cons_succ])
      repeat go_step
      refine hK.out _ _ ?_ (fun hHeld => ?_)
      · (repeat (first | (with_reducible assumption) | (with_reducible apply And.intro) | (with_reducible refine keep_cell (w := ?_) ?_ ?_ ?_; rotate_left; with_reducible assumption) | (with_reducible refine keep_cell_alloc ?_ ?_) | (with_reducible refine keep_lt (w := ?_) ?_ ?_; rotate_left; with_reducible assumption) | (with_reducible refine keep_lt_alloc ?_) | (with_reducible refine below_next (w := ?_) ?_ ?_; rotate_left 2; with_reducible assumption) | (with_reducible refine below_alloc ?_) | (with_reducible refine Below.drew ?_) | (with_reducible refine keep_lt_drew ?_) | (with_reducible refine keep_cell_drew ?_)))
      clear hK K
      clear s0 s1 s2 s3 s4
      refine rg_one (i := 1) #[true, true, true, true, false, false, false, false, false, false] rfl (by kernel_rfl) (by rfl) (fun K hK => ?_)
      obtain ⟨s0, s1, s2, s3, s4⟩ := hHeld
      repeat go_step
      ((with_reducible refine (HN.out _ s0).mono ?_); rintro e w3 ⟨p3, A3, c3, rfl, hla3, hb3⟩; (try have hx4 : ∀ j u, x.cells[j]? = some u → w3.cell? ⟨g4, j, none⟩ = some u := fun j u hu => keep_cell hb3 hg4 (hx4 j u hu)); (try have hg4 := keep_lt hb3 hg4))
      try dsimp only
      refine hK.out _ _ ?_ (fun hHeld => ?_)
      · (repeat (first | (with_reducible assumption) | (with_reducible apply And.intro) | (with_reducible refine keep_cell (w := ?_) ?_ ?_ ?_; rotate_left; with_reducible assumption) | (with_reducible refine keep_cell_alloc ?_ ?_) | (with_reducible refine keep_lt (w := ?_) ?_ ?_; rotate_left; with_reducible assumption) | (with_reducible refine keep_lt_alloc ?_) | (with_reducible refine below_next (w := ?_) ?_ ?_; rotate_left 2; with_reducible assumption) | (with_reducible refine below_alloc ?_) | (with_reducible refine Below.drew ?_) | (with_reducible refine keep_lt_drew ?_) | (with_reducible refine keep_cell_drew ?_)))
      clear hK K
      clear s0 s1 s2 s3 s4
      refine rg_one (i := 4) #[true, true, true, true, true, false, false, false, false, false] rfl (by kernel_rfl) (by rfl) (fun K hK => ?_)
      obtain ⟨s0, s1, s2, s3, s4⟩ := hHeld
      repeat go_step
      ((with_reducible refine (HW.out p3 A3 c3 g4 _ hla3 hx4 hg4).mono ?_); rintro e w5 ⟨hb5, q, r, rfl, hres⟩; have hres : (isMsg x = false ∧ r = 1) ∨ (isMsg x = true ∧ r = 0 ∧ ∃ b' A' c', q = .pointer (some ⟨b', 0, none⟩) ∧ LeafAt w5 b' A' c' (doL l x) ∧ w.heap.size ≤ b' ∧ ∀ ad, A' = some ad → w.heap.size ≤ ad.block) := (by have hsz := s0.size; rcases hres with hres | ⟨h1, h2, b', A', c', h3, h4, h5, h6⟩; exact .inl hres; exact .inr ⟨h1, h2, b', A', c', h3, h4, Nat.le_trans hsz h5, fun ad e => Nat.le_trans hsz (h6 ad e)⟩))
      try dsimp only
      refine hK.out _ _ ?_ (fun hHeld => ?_)
      · (repeat (first | (with_reducible assumption) | (with_reducible apply And.intro) | (with_reducible refine keep_cell (w := ?_) ?_ ?_ ?_; rotate_left; with_reducible assumption) | (with_reducible refine keep_cell_alloc ?_ ?_) | (with_reducible refine keep_lt (w := ?_) ?_ ?_; rotate_left; with_reducible assumption) | (with_reducible refine keep_lt_alloc ?_) | (with_reducible refine below_next (w := ?_) ?_ ?_; rotate_left 2; with_reducible assumption) | (with_reducible refine below_alloc ?_) | (with_reducible refine Below.drew ?_) | (with_reducible refine keep_lt_drew ?_) | (with_reducible refine keep_cell_drew ?_)))
      clear hK K
      clear s0 s1 s2 s3 s4
      refine rg_take (i := 5) (N := (some 19)) (v := ?_) (a' := ?_) #[true, true, true, true, true, true, false, false, false, false] rfl rfl (by kernel_rfl) (fun _ _ _ h => h) (by rfl) ?_ hHeld ?_ ?_
      rotate_left 2
      · rintro w' ⟨s0, s1, s2, s3, s4⟩
        go_simp
        try with_reducible rfl
      · simp only [Act.put, List.setIfInBounds_toArray, List.set_cons_zero, List.set_cons_succ]
        rfl
      refine rg_take (i := 6) (N := (some 25)) (v := ?_) (a' := ?_) #[true, true, true, true, true, true, true, false, false, false] rfl rfl (by kernel_rfl) (fun _ _ _ h => h) (by rfl) ?_ hHeld ?_ ?_
      rotate_left 2
      · rintro w' ⟨s0, s1, s2, s3, s4⟩
        go_simp
        try with_reducible rfl
      · simp only [Act.put, List.setIfInBounds_toArray, List.set_cons_zero, List.set_cons_succ]
        rfl
      refine rg_take (i := 7) (N := (some 26)) (v := ?_) (a' := ?_) #[true, true, true, true, true, true, true, true, false, false] rfl rfl (by kernel_rfl) (fun _ _ _ h => h) (by rfl) ?_ hHeld ?_ ?_
      rotate_left 2
      · rintro w' ⟨s0, s1, s2, s3, s4⟩
        go_simp
        try with_reducible rfl
      · simp only [Act.put, List.setIfInBounds_toArray, List.set_cons_zero, List.set_cons_succ]
        rfl
      refine rg_take (i := 8) (N := (some 7)) (v := ?_) (a' := ?_) #[true, true, true, true, true, true, true, true, true, false] rfl rfl (by kernel_rfl) (fun _ _ _ h => h) (by rfl) ?_ hHeld ?_ ?_
      rotate_left 2
      · rintro w' ⟨s0, s1, s2, s3, s4⟩
        go_simp
        try with_reducible rfl
      · simp only [Act.put, List.setIfInBounds_toArray, List.set_cons_zero, List.set_cons_succ]
        rfl
      refine rg_take (i := 9) (N := (some 8)) (v := ?_) (a' := ?_) #[true, true, true, true, true, true, true, true, true, true] rfl rfl (by kernel_rfl) (fun _ _ _ h => h) (by rfl) ?_ hHeld ?_ ?_
      rotate_left 2
      · rintro w' ⟨s0, s1, s2, s3, s4⟩
        go_simp
        try with_reducible rfl
      · simp only [Act.put, List.setIfInBounds_toArray, List.set_cons_zero, List.set_cons_succ]
        rfl
      refine rg_done (by kernel_rfl) ?_
      exact ⟨_, ⟨_, _, _, _, _, _, q, r, rfl, hres, hHeld.1, hHeld.2.1⟩, by simp only [putAll, Act.put, List.setIfInBounds_toArray, List.set_cons_zero, List.set_cons_succ]; rfl⟩
  · rintro _ w2 ⟨x0, x1, x2, x3, x4, x5, q, r, rfl, hres, hb2, d0⟩
    simp only [putAll, Act.put, List.setIfInBounds_toArray, List.set_cons_zero, List.set_cons_succ]
    have hxl2 : w.heap.size < w2.heap.size := World.block_lt_of_cell? _ _ d0
    have hend : ∀ err W, errU (pCap N) l x = err → addsU (pCap N) l x = false → Below w.heap.size w W → UpdRes bm g N E R w (.returned (.int .i64 err)) W := fun err W h1 h2 h3 => by
      have := HU.out
      have h4 := HR.out
      rw [h1] at this
      unfold rowsU at h4
      rw [h2] at h4
      rw [← this, ← h4]
      exact upd_keep HM.out h3
    have hek : errU (pCap N) l x = if isMsg x = true then (if kind = 2 ∧ G = none then 0 else if kind = 3 ∧ G.any (fun v => decide (v.size ≠ 8)) = true then 10 else if sumW (doL l x) ≤ pCap N then 0 else 9) else 1 := by unfold errU; rw [hkd, hky, hG]
    have hak : addsU (pCap N) l x = (decide (errU (pCap N) l x = 0) && !(decide (kind = 2) && decide (G = none))) := by unfold addsU; rw [hkd, hky, hG]
    have HEND := Lib.hid hend
    have HEK := Lib.hid hek
    have HAK := Lib.hid hak
    clear hend hek hak hG hkd hky hvl hpn
    rcases hres with ⟨hm, rfl⟩ | ⟨hm, rfl, b', A', c', rfl, hla', hle', hfr'⟩
    · have he : errU (pCap N) l x = 1 := by rw [HEK.out, hm]; rfl
      have ha : addsU (pCap N) l x = false := by rw [HAK.out, he]; rfl
      go_wp2
      go_ret
      exact HEND.out 1 _ he ha hb2
    · by_cases hdel : kind = 2 ∧ G = none
      · obtain ⟨h2, rfl⟩ := hdel
        have he : errU (pCap N) l x = 0 := by rw [HEK.out, hm, if_pos rfl, if_pos ⟨h2, rfl⟩]
        have ha : addsU (pCap N) l x = false := by rw [HAK.out, he, h2]; rfl
        have hk2 : (kind == 2) = true := by simp [h2]
        go_wp2
        go_ret
        exact HEND.out 0 _ he ha hb2
      · have hgo : ¬ (kind = 3 ∧ G.any (fun v => decide (v.size ≠ 8)) = true) → errU (pCap N) l x = if sumW (doL l x) ≤ pCap N then 0 else 9 := fun h3 => by rw [HEK.out, hm, if_pos rfl, if_neg hdel, if_neg h3]
        have hadd : errU (pCap N) l x = 0 → addsU (pCap N) l x = true := fun h0 => by
          rw [HAK.out, h0]
          have : (decide (kind = 2) && decide (G = none)) = false := by
            by_cases h2 : kind = 2
            · have hgn : G ≠ none := fun e => hdel ⟨h2, e⟩
              simp [hgn]
            · simp [h2]
          rw [this]
          rfl
        have hnadd : errU (pCap N) l x ≠ 0 → addsU (pCap N) l x = false := fun h0 => by rw [HAK.out, decide_eq_false h0]; rfl
        have hnum : ∀ W, Calls Tryz.prog 78 #[.string (strO G)] W fun e w' => ∃ q : Int, e = .returned (.tuple #[.int .u64 q, .bool (decide ((strO G).size = 8))]) ∧ Below W.heap.size W w' := fun W => by
          by_cases h8 : (strO G).size = 8
          · refine (number_yes _ W h8).mono ?_
            rintro e w' ⟨rfl, hb⟩
            exact ⟨_, by rw [decide_eq_true h8], hb⟩
          · refine (number_no _ W h8).mono ?_
            rintro e w' ⟨rfl, hb⟩
            exact ⟨_, by rw [decide_eq_false h8], hb⟩
        have hwt := fun W (hW : Below w2.heap.size w2 W) => leafWeight_any b' c' A' (doL l x) W (hla'.below hW)
        have hsr := sumW_range _ hla'.oks
        obtain ⟨okb, hok⟩ : ∃ okb, decide (sumW (doL l x) ≤ pCap N) = okb := ⟨_, rfl⟩
        have hho := fun W => holds_any N (sumW (doL l x)) W
        rw [planA_def, decide_eq_true hsr.1, hok, Bool.true_and] at hho
        have hrw2 : MRow bm N (.slice (some ⟨g, off, none⟩) n cap) w2 := (Fr.of_below (S := fun _ => False) hb2).row id HRW.out
        have HGO := Lib.hid hgo
        have HADD := Lib.hid hadd
        have HNADD := Lib.hid hnadd
        have HWT := Lib.hid hwt
        have HHO := Lib.hid hho
        have HOK := Lib.hid hok
        have HLA := Lib.hid hla'
        have HLE := Lib.hid hle'
        have HFR := Lib.hid hfr'
        have HB2 := Lib.hid hb2
        have HRW2 := Lib.hid hrw2
        have hcase : (kind = 2 ∧ ∃ u, G = some u) ∨ (kind = 3 ∧ G = none) ∨ (kind = 3 ∧ ∃ u : ByteArray, u.size = 8 ∧ G = some u) ∨ (kind = 3 ∧ ∃ u : ByteArray, ¬ u.size = 8 ∧ G = some u) ∨ (¬ kind = 2 ∧ ¬ kind = 3) := by
          by_cases h2 : kind = 2
          · cases G with
            | none => exact absurd ⟨h2, rfl⟩ hdel
            | some u => exact .inl ⟨h2, u, rfl⟩
          · by_cases h3 : kind = 3
            · cases G with
              | none => exact .inr (.inl ⟨h3, rfl⟩)
              | some u =>
                by_cases h8 : u.size = 8
                · exact .inr (.inr (.inl ⟨h3, u, h8, rfl⟩))
                · exact .inr (.inr (.inr (.inl ⟨h3, u, h8, rfl⟩)))
            · exact .inr (.inr (.inr (.inr ⟨h2, h3⟩)))
        clear hgo hadd hnadd hwt hho hok hla' hle' hfr' hb2 hrw2 hdel hlen HAK hsr
        rcases hcase with ⟨h2, u, rfl⟩ | ⟨h3, rfl⟩ | ⟨h3, u, h8, rfl⟩ | ⟨h3, u, h8, rfl⟩ | ⟨h2, h3⟩
        · have hex : errU (pCap N) l x = if sumW (doL l x) ≤ pCap N then 0 else 9 := HGO.out (by rintro ⟨h, _⟩; omega)
          have HEX := Lib.hid hex
          have HNUM := Lib.hid hnum
          clear hex hnum HGO
          have e2 : (kind == 2) = true := by simp [h2]
          have e3 : (kind == 3) = false := by simp [h2]
          go_wp2_with (go_at_call 78; (with_reducible refine (HNUM.out _).mono ?_); rintro e w3 ⟨q, rfl, hb3⟩; have d3 := keep_cell hb3 hxl2 d0; have HB3 := Lib.hid hb3; clear hb3)
          have hrw3 := HRW2.out.below HB3.out
          have HB3' := HB3.out
          refine rg_start (n := 8) (fun w' => Below w2.heap.size w2 w' ∧ MRow bm N (Value.slice (some ⟨g, off, none⟩) n cap) w') #[false, false, false, false, false, false, false, false] (by kernel_rfl) rfl rfl ⟨HB3'.drew, hrw3⟩ (fun hHeld => ?_)
          refine rg_take (i := 0) (N := (some 54)) (v := ?_) (a' := ?_) #[true, false, false, false, false, false, false, false] rfl rfl (by kernel_rfl) (fun _ _ _ h => h) (by rfl) ?_ hHeld ?_ ?_
          rotate_left 2
          · rintro w' ⟨s0, s1⟩
            go_simp
            try with_reducible rfl
          · simp only [Act.put, List.setIfInBounds_toArray, List.set_cons_zero, List.set_cons_succ]
            rfl
          refine rg_take (i := 1) (N := (some 55)) (v := ?_) (a' := ?_) #[true, true, false, false, false, false, false, false] rfl rfl (by kernel_rfl) (fun _ _ _ h => h) (by rfl) ?_ hHeld ?_ ?_
          rotate_left 2
          · rintro w' ⟨s0, s1⟩
            go_simp
            try with_reducible rfl
          · simp only [Act.put, List.setIfInBounds_toArray, List.set_cons_zero, List.set_cons_succ]
            rfl
          refine rg_take (i := 2) (N := (some 56)) (v := ?_) (a' := ?_) #[true, true, true, false, false, false, false, false] rfl rfl (by kernel_rfl) (fun _ _ _ h => h) (by rfl) ?_ hHeld ?_ ?_
          rotate_left 2
          · rintro w' ⟨s0, s1⟩
            go_simp
            try with_reducible rfl
          · simp only [Act.put, List.setIfInBounds_toArray, List.set_cons_zero, List.set_cons_succ]
            rfl
          refine rg_take (i := 3) (N := (some 57)) (v := ?_) (a' := ?_) #[true, true, true, true, false, false, false, false] rfl rfl (by kernel_rfl) (fun _ _ _ h => h) (by rfl) ?_ hHeld ?_ ?_
          rotate_left 2
          · rintro w' ⟨s0, s1⟩
            (obtain ⟨c0, c1, c2, c3, c4, c5, c6, c7⟩ := plan_cells s1; go_simp; (try with_reducible rfl))
          · simp only [Act.put, List.setIfInBounds_toArray, List.set_cons_zero, List.set_cons_succ]
            rfl
          refine rg_take (i := 4) (N := (some 58)) (v := ?_) (a' := ?_) #[true, true, true, true, true, false, false, false] rfl rfl (by kernel_rfl) (fun _ _ _ h => h) (by rfl) ?_ hHeld ?_ ?_
          rotate_left 2
          · rintro w' ⟨s0, s1⟩
            go_simp
            try with_reducible rfl
          · simp only [Act.put, List.setIfInBounds_toArray, List.set_cons_zero, List.set_cons_succ]
            rfl
          refine rg_one (i := 5) #[true, true, true, true, true, true, false, false] rfl (by kernel_rfl) (by rfl) (fun K hK => ?_)
          obtain ⟨s0, s1⟩ := hHeld
          repeat go_step
          ((with_reducible refine (HWT.out _ s0).mono ?_); rintro e w4 ⟨rfl, hb4⟩)
          try dsimp only
          refine hK.out _ _ ?_ (fun hHeld => ?_)
          · exact ⟨below_next s0 hb4, s1.below hb4⟩
          clear hK K
          clear s0 s1
          refine rg_one (i := 6) #[true, true, true, true, true, true, true, false] rfl (by kernel_rfl) (by rfl) (fun K hK => ?_)
          obtain ⟨s0, s1⟩ := hHeld
          repeat go_step
          ((with_reducible refine (HHO.out _).mono ?_); rintro e w5 ⟨rfl, hb5⟩)
          try dsimp only
          refine hK.out _ _ ?_ (fun hHeld => ?_)
          · exact ⟨below_next s0 hb5, s1.below hb5⟩
          clear hK K
          clear s0 s1
          refine rg_take (i := 7) (N := (some 61)) (v := ?_) (a' := ?_) #[true, true, true, true, true, true, true, true] rfl rfl (by kernel_rfl) (fun _ _ _ h => h) (by rfl) ?_ hHeld ?_ ?_
          rotate_left 2
          · rintro w' ⟨s0, s1⟩
            go_simp
            try with_reducible rfl
          · simp only [Act.put, List.setIfInBounds_toArray, List.set_cons_zero, List.set_cons_succ]
            rfl
          refine rg_done (by kernel_rfl) ?_
          obtain ⟨s0, s1⟩ := hHeld
          obtain ⟨c0, c1, c2, c3, c4, c5, c6, c7⟩ := plan_cells s1
          have S0 := Lib.hid s0
          have S1 := Lib.hid s1
          clear s0 s1 c0 c1 c2 c3 c4 c5 c6
          cases okb with
          | false =>
            have he : errU (pCap N) l x = 9 := by rw [HEX.out, if_neg (of_decide_eq_false HOK.out)]
            have ha : addsU (pCap N) l x = false := HNADD.out (by rw [he]; decide)
            go_wp2
            go_ret
            exact HEND.out 9 _ he ha (below_next HB2.out S0.out)
          | true =>
            have he : errU (pCap N) l x = 0 := by rw [HEX.out, if_pos (of_decide_eq_true HOK.out)]
            have ha : addsU (pCap N) l x = true := HADD.out he
            have hE : E = 0 := by rw [← HU.out, he]
            have hR : R = ls ++ [doL l x] := by rw [← HR.out]; unfold rowsU; rw [if_pos ha]
            have HE0 := Lib.hid hE
            have HR0 := Lib.hid hR
            have hb5 : Below w.heap.size w w5 := below_next HB2.out S0.out
            have hra5 := HRA.out.fr (Fr.of_below (S := fun _ => False) hb5) id
            have hgb : ¬ bm = g := by
              obtain ⟨cur, hgr, _⟩ := HRA.out.blk
              exact kinds_ne HRW.out hgr (by decide)
            have HB5 := Lib.hid hb5
            have HRA5 := Lib.hid hra5
            have HGB := Lib.hid hgb
            clear he ha hE hR hb5 hra5 hgb
            go_wp2_with (at_builtin; go_loud (refine rows_append rfl (some 69) rfl _ _ rfl g off n cap w5.heap.size b' 1 ps rfl rfl (HRA5.out.fr ((Fr.refl (fun _ => False) w5).alloc _) id) (by rw [Lib.cell_of_heap (heap_alloc_new w5 _)]; rfl) (by omega) ?_; intro g' off' cap' w7 hr7 hg' hf7; have hrow7 := hf7.row HGB.out (S1.out.below (below_alloc (Below.refl _ w5))); have d7 := (plan_cells hrow7).2.2.2.2.2.2.2; have f7 := Lib.frozen_of_heap hrow7 7; have HR7 := Lib.hid hr7; have HG7 := Lib.hid hg'; have HF7 := Lib.hid hf7; clear hr7 hg' hf7 hrow7))
            go_ret
            rw [HE0.out, HR0.out]
            exact model_add HRW.out HRA.out HPS.out HLV.out (below_alloc HB5.out) HR7.out HG7.out HF7.out (HLA.out.below (below_alloc S0.out)) HLE.out HFR.out
        · have hex : errU (pCap N) l x = if sumW (doL l x) ≤ pCap N then 0 else 9 := HGO.out (by rintro ⟨_, h⟩; cases h)
          have HEX := Lib.hid hex
          have HNUM := Lib.hid hnum
          clear hex hnum HGO
          have e2 : (kind == 2) = false := by simp [h3]
          have e3 : (kind == 3) = true := by simp [h3]
          go_wp2_with (go_at_call 78; (with_reducible refine (HNUM.out _).mono ?_); rintro e w3 ⟨q, rfl, hb3⟩; have d3 := keep_cell hb3 hxl2 d0; have HB3 := Lib.hid hb3; clear hb3)
          have hrw3 := HRW2.out.below HB3.out
          have HB3' := HB3.out
          refine rg_start (n := 8) (fun w' => Below w2.heap.size w2 w' ∧ MRow bm N (Value.slice (some ⟨g, off, none⟩) n cap) w') #[false, false, false, false, false, false, false, false] (by kernel_rfl) rfl rfl ⟨HB3'.drew, hrw3⟩ (fun hHeld => ?_)
          refine rg_take (i := 0) (N := (some 54)) (v := ?_) (a' := ?_) #[true, false, false, false, false, false, false, false] rfl rfl (by kernel_rfl) (fun _ _ _ h => h) (by rfl) ?_ hHeld ?_ ?_
          rotate_left 2
          · rintro w' ⟨s0, s1⟩
            go_simp
            try with_reducible rfl
          · simp only [Act.put, List.setIfInBounds_toArray, List.set_cons_zero, List.set_cons_succ]
            rfl
          refine rg_take (i := 1) (N := (some 55)) (v := ?_) (a' := ?_) #[true, true, false, false, false, false, false, false] rfl rfl (by kernel_rfl) (fun _ _ _ h => h) (by rfl) ?_ hHeld ?_ ?_
          rotate_left 2
          · rintro w' ⟨s0, s1⟩
            go_simp
            try with_reducible rfl
          · simp only [Act.put, List.setIfInBounds_toArray, List.set_cons_zero, List.set_cons_succ]
            rfl
          refine rg_take (i := 2) (N := (some 56)) (v := ?_) (a' := ?_) #[true, true, true, false, false, false, false, false] rfl rfl (by kernel_rfl) (fun _ _ _ h => h) (by rfl) ?_ hHeld ?_ ?_
          rotate_left 2
          · rintro w' ⟨s0, s1⟩
            go_simp
            try with_reducible rfl
          · simp only [Act.put, List.setIfInBounds_toArray, List.set_cons_zero, List.set_cons_succ]
            rfl
          refine rg_take (i := 3) (N := (some 57)) (v := ?_) (a' := ?_) #[true, true, true, true, false, false, false, false] rfl rfl (by kernel_rfl) (fun _ _ _ h => h) (by rfl) ?_ hHeld ?_ ?_
          rotate_left 2
          · rintro w' ⟨s0, s1⟩
            (obtain ⟨c0, c1, c2, c3, c4, c5, c6, c7⟩ := plan_cells s1; go_simp; (try with_reducible rfl))
          · simp only [Act.put, List.setIfInBounds_toArray, List.set_cons_zero, List.set_cons_succ]
            rfl
          refine rg_take (i := 4) (N := (some 58)) (v := ?_) (a' := ?_) #[true, true, true, true, true, false, false, false] rfl rfl (by kernel_rfl) (fun _ _ _ h => h) (by rfl) ?_ hHeld ?_ ?_
          rotate_left 2
          · rintro w' ⟨s0, s1⟩
            go_simp
            try with_reducible rfl
          · simp only [Act.put, List.setIfInBounds_toArray, List.set_cons_zero, List.set_cons_succ]
            rfl
          refine rg_one (i := 5) #[true, true, true, true, true, true, false, false] rfl (by kernel_rfl) (by rfl) (fun K hK => ?_)
          obtain ⟨s0, s1⟩ := hHeld
          repeat go_step
          ((with_reducible refine (HWT.out _ s0).mono ?_); rintro e w4 ⟨rfl, hb4⟩)
          try dsimp only
          refine hK.out _ _ ?_ (fun hHeld => ?_)
          · exact ⟨below_next s0 hb4, s1.below hb4⟩
          clear hK K
          clear s0 s1
          refine rg_one (i := 6) #[true, true, true, true, true, true, true, false] rfl (by kernel_rfl) (by rfl) (fun K hK => ?_)
          obtain ⟨s0, s1⟩ := hHeld
          repeat go_step
          ((with_reducible refine (HHO.out _).mono ?_); rintro e w5 ⟨rfl, hb5⟩)
          try dsimp only
          refine hK.out _ _ ?_ (fun hHeld => ?_)
          · exact ⟨below_next s0 hb5, s1.below hb5⟩
          clear hK K
          clear s0 s1
          refine rg_take (i := 7) (N := (some 61)) (v := ?_) (a' := ?_) #[true, true, true, true, true, true, true, true] rfl rfl (by kernel_rfl) (fun _ _ _ h => h) (by rfl) ?_ hHeld ?_ ?_
          rotate_left 2
          · rintro w' ⟨s0, s1⟩
            go_simp
            try with_reducible rfl
          · simp only [Act.put, List.setIfInBounds_toArray, List.set_cons_zero, List.set_cons_succ]
            rfl
          refine rg_done (by kernel_rfl) ?_
          obtain ⟨s0, s1⟩ := hHeld
          obtain ⟨c0, c1, c2, c3, c4, c5, c6, c7⟩ := plan_cells s1
          have S0 := Lib.hid s0
          have S1 := Lib.hid s1
          clear s0 s1 c0 c1 c2 c3 c4 c5 c6
          cases okb with
          | false =>
            have he : errU (pCap N) l x = 9 := by rw [HEX.out, if_neg (of_decide_eq_false HOK.out)]
            have ha : addsU (pCap N) l x = false := HNADD.out (by rw [he]; decide)
            go_wp2
            go_ret
            exact HEND.out 9 _ he ha (below_next HB2.out S0.out)
          | true =>
            have he : errU (pCap N) l x = 0 := by rw [HEX.out, if_pos (of_decide_eq_true HOK.out)]
            have ha : addsU (pCap N) l x = true := HADD.out he
            have hE : E = 0 := by rw [← HU.out, he]
            have hR : R = ls ++ [doL l x] := by rw [← HR.out]; unfold rowsU; rw [if_pos ha]
            have HE0 := Lib.hid hE
            have HR0 := Lib.hid hR
            have hb5 : Below w.heap.size w w5 := below_next HB2.out S0.out
            have hra5 := HRA.out.fr (Fr.of_below (S := fun _ => False) hb5) id
            have hgb : ¬ bm = g := by
              obtain ⟨cur, hgr, _⟩ := HRA.out.blk
              exact kinds_ne HRW.out hgr (by decide)
            have HB5 := Lib.hid hb5
            have HRA5 := Lib.hid hra5
            have HGB := Lib.hid hgb
            clear he ha hE hR hb5 hra5 hgb
            go_wp2_with (at_builtin; go_loud (refine rows_append rfl (some 69) rfl _ _ rfl g off n cap w5.heap.size b' 1 ps rfl rfl (HRA5.out.fr ((Fr.refl (fun _ => False) w5).alloc _) id) (by rw [Lib.cell_of_heap (heap_alloc_new w5 _)]; rfl) (by omega) ?_; intro g' off' cap' w7 hr7 hg' hf7; have hrow7 := hf7.row HGB.out (S1.out.below (below_alloc (Below.refl _ w5))); have d7 := (plan_cells hrow7).2.2.2.2.2.2.2; have f7 := Lib.frozen_of_heap hrow7 7; have HR7 := Lib.hid hr7; have HG7 := Lib.hid hg'; have HF7 := Lib.hid hf7; clear hr7 hg' hf7 hrow7))
            go_ret
            rw [HE0.out, HR0.out]
            exact model_add HRW.out HRA.out HPS.out HLV.out (below_alloc HB5.out) HR7.out HG7.out HF7.out (HLA.out.below (below_alloc S0.out)) HLE.out HFR.out
        · have hex : errU (pCap N) l x = if sumW (doL l x) ≤ pCap N then 0 else 9 := HGO.out (by rintro ⟨_, h⟩; simp [h8] at h)
          have HEX := Lib.hid hex
          have HNUM := Lib.hid hnum
          clear hex hnum HGO
          have e2 : (kind == 2) = false := by simp [h3]
          have e3 : (kind == 3) = true := by simp [h3]
          have e8 : decide ((strO (some u)).size = 8) = true := by simp [strO, h8]
          go_wp2_with (go_at_call 78; (with_reducible refine (HNUM.out _).mono ?_); rintro e w3 ⟨q, rfl, hb3⟩; have d3 := keep_cell hb3 hxl2 d0; have HB3 := Lib.hid hb3; clear hb3)
          have hrw3 := HRW2.out.below HB3.out
          have HB3' := HB3.out
          refine rg_start (n := 8) (fun w' => Below w2.heap.size w2 w' ∧ MRow bm N (Value.slice (some ⟨g, off, none⟩) n cap) w') #[false, false, false, false, false, false, false, false] (by kernel_rfl) rfl rfl ⟨HB3'.drew, hrw3⟩ (fun hHeld => ?_)
          refine rg_take (i := 0) (N := (some 54)) (v := ?_) (a' := ?_) #[true, false, false, false, false, false, false, false] rfl rfl (by kernel_rfl) (fun _ _ _ h => h) (by rfl) ?_ hHeld ?_ ?_
          rotate_left 2
          · rintro w' ⟨s0, s1⟩
            go_simp
            try with_reducible rfl
          · simp only [Act.put, List.setIfInBounds_toArray, List.set_cons_zero, List.set_cons_succ]
            rfl
          refine rg_take (i := 1) (N := (some 55)) (v := ?_) (a' := ?_) #[true, true, false, false, false, false, false, false] rfl rfl (by kernel_rfl) (fun _ _ _ h => h) (by rfl) ?_ hHeld ?_ ?_
          rotate_left 2
          · rintro w' ⟨s0, s1⟩
            go_simp
            try with_reducible rfl
          · simp only [Act.put, List.setIfInBounds_toArray, List.set_cons_zero, List.set_cons_succ]
            rfl
          refine rg_take (i := 2) (N := (some 56)) (v := ?_) (a' := ?_) #[true, true, true, false, false, false, false, false] rfl rfl (by kernel_rfl) (fun _ _ _ h => h) (by rfl) ?_ hHeld ?_ ?_
          rotate_left 2
          · rintro w' ⟨s0, s1⟩
            go_simp
            try with_reducible rfl
          · simp only [Act.put, List.setIfInBounds_toArray, List.set_cons_zero, List.set_cons_succ]
            rfl
          refine rg_take (i := 3) (N := (some 57)) (v := ?_) (a' := ?_) #[true, true, true, true, false, false, false, false] rfl rfl (by kernel_rfl) (fun _ _ _ h => h) (by rfl) ?_ hHeld ?_ ?_
          rotate_left 2
          · rintro w' ⟨s0, s1⟩
            (obtain ⟨c0, c1, c2, c3, c4, c5, c6, c7⟩ := plan_cells s1; go_simp; (try with_reducible rfl))
          · simp only [Act.put, List.setIfInBounds_toArray, List.set_cons_zero, List.set_cons_succ]
            rfl
          refine rg_take (i := 4) (N := (some 58)) (v := ?_) (a' := ?_) #[true, true, true, true, true, false, false, false] rfl rfl (by kernel_rfl) (fun _ _ _ h => h) (by rfl) ?_ hHeld ?_ ?_
          rotate_left 2
          · rintro w' ⟨s0, s1⟩
            go_simp
            try with_reducible rfl
          · simp only [Act.put, List.setIfInBounds_toArray, List.set_cons_zero, List.set_cons_succ]
            rfl
          refine rg_one (i := 5) #[true, true, true, true, true, true, false, false] rfl (by kernel_rfl) (by rfl) (fun K hK => ?_)
          obtain ⟨s0, s1⟩ := hHeld
          repeat go_step
          ((with_reducible refine (HWT.out _ s0).mono ?_); rintro e w4 ⟨rfl, hb4⟩)
          try dsimp only
          refine hK.out _ _ ?_ (fun hHeld => ?_)
          · exact ⟨below_next s0 hb4, s1.below hb4⟩
          clear hK K
          clear s0 s1
          refine rg_one (i := 6) #[true, true, true, true, true, true, true, false] rfl (by kernel_rfl) (by rfl) (fun K hK => ?_)
          obtain ⟨s0, s1⟩ := hHeld
          repeat go_step
          ((with_reducible refine (HHO.out _).mono ?_); rintro e w5 ⟨rfl, hb5⟩)
          try dsimp only
          refine hK.out _ _ ?_ (fun hHeld => ?_)
          · exact ⟨below_next s0 hb5, s1.below hb5⟩
          clear hK K
          clear s0 s1
          refine rg_take (i := 7) (N := (some 61)) (v := ?_) (a' := ?_) #[true, true, true, true, true, true, true, true] rfl rfl (by kernel_rfl) (fun _ _ _ h => h) (by rfl) ?_ hHeld ?_ ?_
          rotate_left 2
          · rintro w' ⟨s0, s1⟩
            go_simp
            try with_reducible rfl
          · simp only [Act.put, List.setIfInBounds_toArray, List.set_cons_zero, List.set_cons_succ]
            rfl
          refine rg_done (by kernel_rfl) ?_
          obtain ⟨s0, s1⟩ := hHeld
          obtain ⟨c0, c1, c2, c3, c4, c5, c6, c7⟩ := plan_cells s1
          have S0 := Lib.hid s0
          have S1 := Lib.hid s1
          clear s0 s1 c0 c1 c2 c3 c4 c5 c6
          cases okb with
          | false =>
            have he : errU (pCap N) l x = 9 := by rw [HEX.out, if_neg (of_decide_eq_false HOK.out)]
            have ha : addsU (pCap N) l x = false := HNADD.out (by rw [he]; decide)
            go_wp2
            go_ret
            exact HEND.out 9 _ he ha (below_next HB2.out S0.out)
          | true =>
            have he : errU (pCap N) l x = 0 := by rw [HEX.out, if_pos (of_decide_eq_true HOK.out)]
            have ha : addsU (pCap N) l x = true := HADD.out he
            have hE : E = 0 := by rw [← HU.out, he]
            have hR : R = ls ++ [doL l x] := by rw [← HR.out]; unfold rowsU; rw [if_pos ha]
            have HE0 := Lib.hid hE
            have HR0 := Lib.hid hR
            have hb5 : Below w.heap.size w w5 := below_next HB2.out S0.out
            have hra5 := HRA.out.fr (Fr.of_below (S := fun _ => False) hb5) id
            have hgb : ¬ bm = g := by
              obtain ⟨cur, hgr, _⟩ := HRA.out.blk
              exact kinds_ne HRW.out hgr (by decide)
            have HB5 := Lib.hid hb5
            have HRA5 := Lib.hid hra5
            have HGB := Lib.hid hgb
            clear he ha hE hR hb5 hra5 hgb
            go_wp2_with (at_builtin; go_loud (refine rows_append rfl (some 69) rfl _ _ rfl g off n cap w5.heap.size b' 1 ps rfl rfl (HRA5.out.fr ((Fr.refl (fun _ => False) w5).alloc _) id) (by rw [Lib.cell_of_heap (heap_alloc_new w5 _)]; rfl) (by omega) ?_; intro g' off' cap' w7 hr7 hg' hf7; have hrow7 := hf7.row HGB.out (S1.out.below (below_alloc (Below.refl _ w5))); have d7 := (plan_cells hrow7).2.2.2.2.2.2.2; have f7 := Lib.frozen_of_heap hrow7 7; have HR7 := Lib.hid hr7; have HG7 := Lib.hid hg'; have HF7 := Lib.hid hf7; clear hr7 hg' hf7 hrow7))
            go_ret
            rw [HE0.out, HR0.out]
            exact model_add HRW.out HRA.out HPS.out HLV.out (below_alloc HB5.out) HR7.out HG7.out HF7.out (HLA.out.below (below_alloc S0.out)) HLE.out HFR.out
        · have he : errU (pCap N) l x = 10 := by rw [HEK.out, hm, if_pos rfl, if_neg (fun h => by cases h.2), if_pos ⟨h3, by simp [h8]⟩]
          have ha : addsU (pCap N) l x = false := HNADD.out (by rw [he]; decide)
          have HNUM := Lib.hid hnum
          clear hnum HGO
          have e2 : (kind == 2) = false := by simp [h3]
          have e3 : (kind == 3) = true := by simp [h3]
          have e8 : decide ((strO (some u)).size = 8) = false := by simp [strO, h8]
          go_wp2_with (go_at_call 78; (with_reducible refine (HNUM.out _).mono ?_); rintro e w3 ⟨q, rfl, hb3⟩; have d3 := keep_cell hb3 hxl2 d0; have HB3 := Lib.hid hb3; clear hb3)
          go_ret
          exact HEND.out 10 _ he ha (below_next HB2.out HB3.out)
        · have hex : errU (pCap N) l x = if sumW (doL l x) ≤ pCap N then 0 else 9 := HGO.out (by rintro ⟨h, _⟩; exact h3 h)
          have HEX := Lib.hid hex
          have HNUM := Lib.hid hnum
          clear hex hnum HGO
          have e2 : (kind == 2) = false := by simp [h2]
          have e3 : (kind == 3) = false := by simp [h3]
          go_wp2_with (go_at_call 78; (with_reducible refine (HNUM.out _).mono ?_); rintro e w3 ⟨q, rfl, hb3⟩; have d3 := keep_cell hb3 hxl2 d0; have HB3 := Lib.hid hb3; clear hb3)
          have hrw3 := HRW2.out.below HB3.out
          have HB3' := HB3.out
          refine rg_start (n := 8) (fun w' => Below w2.heap.size w2 w' ∧ MRow bm N (Value.slice (some ⟨g, off, none⟩) n cap) w') #[false, false, false, false, false, false, false, false] (by kernel_rfl) rfl rfl ⟨HB3'.drew, hrw3⟩ (fun hHeld => ?_)
          refine rg_take (i := 0) (N := (some 54)) (v := ?_) (a' := ?_) #[true, false, false, false, false, false, false, false] rfl rfl (by kernel_rfl) (fun _ _ _ h => h) (by rfl) ?_ hHeld ?_ ?_
          rotate_left 2
          · rintro w' ⟨s0, s1⟩
            go_simp
            try with_reducible rfl
          · simp only [Act.put, List.setIfInBounds_toArray, List.set_cons_zero, List.set_cons_succ]
            rfl
          refine rg_take (i := 1) (N := (some 55)) (v := ?_) (a' := ?_) #[true, true, false, false, false, false, false, false] rfl rfl (by kernel_rfl) (fun _ _ _ h => h) (by rfl) ?_ hHeld ?_ ?_
          rotate_left 2
          · rintro w' ⟨s0, s1⟩
            go_simp
            try with_reducible rfl
          · simp only [Act.put, List.setIfInBounds_toArray, List.set_cons_zero, List.set_cons_succ]
            rfl
          refine rg_take (i := 2) (N := (some 56)) (v := ?_) (a' := ?_) #[true, true, true, false, false, false, false, false] rfl rfl (by kernel_rfl) (fun _ _ _ h => h) (by rfl) ?_ hHeld ?_ ?_
          rotate_left 2
          · rintro w' ⟨s0, s1⟩
            go_simp
            try with_reducible rfl
          · simp only [Act.put, List.setIfInBounds_toArray, List.set_cons_zero, List.set_cons_succ]
            rfl
          refine rg_take (i := 3) (N := (some 57)) (v := ?_) (a' := ?_) #[true, true, true, true, false, false, false, false] rfl rfl (by kernel_rfl) (fun _ _ _ h => h) (by rfl) ?_ hHeld ?_ ?_
          rotate_left 2
          · rintro w' ⟨s0, s1⟩
            (obtain ⟨c0, c1, c2, c3, c4, c5, c6, c7⟩ := plan_cells s1; go_simp; (try with_reducible rfl))
          · simp only [Act.put, List.setIfInBounds_toArray, List.set_cons_zero, List.set_cons_succ]
            rfl
          refine rg_take (i := 4) (N := (some 58)) (v := ?_) (a' := ?_) #[true, true, true, true, true, false, false, false] rfl rfl (by kernel_rfl) (fun _ _ _ h => h) (by rfl) ?_ hHeld ?_ ?_
          rotate_left 2
          · rintro w' ⟨s0, s1⟩
            go_simp
            try with_reducible rfl
          · simp only [Act.put, List.setIfInBounds_toArray, List.set_cons_zero, List.set_cons_succ]
            rfl
          refine rg_one (i := 5) #[true, true, true, true, true, true, false, false] rfl (by kernel_rfl) (by rfl) (fun K hK => ?_)
          obtain ⟨s0, s1⟩ := hHeld
          repeat go_step
          ((with_reducible refine (HWT.out _ s0).mono ?_); rintro e w4 ⟨rfl, hb4⟩)
          try dsimp only
          refine hK.out _ _ ?_ (fun hHeld => ?_)
          · exact ⟨below_next s0 hb4, s1.below hb4⟩
          clear hK K
          clear s0 s1
          refine rg_one (i := 6) #[true, true, true, true, true, true, true, false] rfl (by kernel_rfl) (by rfl) (fun K hK => ?_)
          obtain ⟨s0, s1⟩ := hHeld
          repeat go_step
          ((with_reducible refine (HHO.out _).mono ?_); rintro e w5 ⟨rfl, hb5⟩)
          try dsimp only
          refine hK.out _ _ ?_ (fun hHeld => ?_)
          · exact ⟨below_next s0 hb5, s1.below hb5⟩
          clear hK K
          clear s0 s1
          refine rg_take (i := 7) (N := (some 61)) (v := ?_) (a' := ?_) #[true, true, true, true, true, true, true, true] rfl rfl (by kernel_rfl) (fun _ _ _ h => h) (by rfl) ?_ hHeld ?_ ?_
          rotate_left 2
          · rintro w' ⟨s0, s1⟩
            go_simp
            try with_reducible rfl
          · simp only [Act.put, List.setIfInBounds_toArray, List.set_cons_zero, List.set_cons_succ]
            rfl
          refine rg_done (by kernel_rfl) ?_
          obtain ⟨s0, s1⟩ := hHeld
          obtain ⟨c0, c1, c2, c3, c4, c5, c6, c7⟩ := plan_cells s1
          have S0 := Lib.hid s0
          have S1 := Lib.hid s1
          clear s0 s1 c0 c1 c2 c3 c4 c5 c6
          cases okb with
          | false =>
            have he : errU (pCap N) l x = 9 := by rw [HEX.out, if_neg (of_decide_eq_false HOK.out)]
            have ha : addsU (pCap N) l x = false := HNADD.out (by rw [he]; decide)
            go_wp2
            go_ret
            exact HEND.out 9 _ he ha (below_next HB2.out S0.out)
          | true =>
            have he : errU (pCap N) l x = 0 := by rw [HEX.out, if_pos (of_decide_eq_true HOK.out)]
            have ha : addsU (pCap N) l x = true := HADD.out he
            have hE : E = 0 := by rw [← HU.out, he]
            have hR : R = ls ++ [doL l x] := by rw [← HR.out]; unfold rowsU; rw [if_pos ha]
            have HE0 := Lib.hid hE
            have HR0 := Lib.hid hR
            have hb5 : Below w.heap.size w w5 := below_next HB2.out S0.out
            have hra5 := HRA.out.fr (Fr.of_below (S := fun _ => False) hb5) id
            have hgb : ¬ bm = g := by
              obtain ⟨cur, hgr, _⟩ := HRA.out.blk
              exact kinds_ne HRW.out hgr (by decide)
            have HB5 := Lib.hid hb5
            have HRA5 := Lib.hid hra5
            have HGB := Lib.hid hgb
            clear he ha hE hR hb5 hra5 hgb
            go_wp2_with (at_builtin; go_loud (refine rows_append rfl (some 69) rfl _ _ rfl g off n cap w5.heap.size b' 1 ps rfl rfl (HRA5.out.fr ((Fr.refl (fun _ => False) w5).alloc _) id) (by rw [Lib.cell_of_heap (heap_alloc_new w5 _)]; rfl) (by omega) ?_; intro g' off' cap' w7 hr7 hg' hf7; have hrow7 := hf7.row HGB.out (S1.out.below (below_alloc (Below.refl _ w5))); have d7 := (plan_cells hrow7).2.2.2.2.2.2.2; have f7 := Lib.frozen_of_heap hrow7 7; have HR7 := Lib.hid hr7; have HG7 := Lib.hid hg'; have HF7 := Lib.hid hf7; clear hr7 hg' hf7 hrow7))
            go_ret
            rw [HE0.out, HR0.out]
            exact model_add HRW.out HRA.out HPS.out HLV.out (below_alloc HB5.out) HR7.out HG7.out HF7.out (HLA.out.below (below_alloc S0.out)) HLE.out HFR.out
end Go.Proofs.YtdfgdnaejnngoaaGreat
namespace Go.Proofs.YtdfgdnaejnngoaaGreat
open Go.RowKit
/-! Ranges; an order's message. -/
theorem bl_gtr (a b : List UInt8) : (!Op.bytesLess a b && !a == b) = Op.bytesLess b a := by
  cases h : Op.bytesLess b a with
  | true =>
    have h1 : Op.bytesLess a b = false := by
      cases h' : Op.bytesLess a b with
      | false => rfl
      | true =>
        have := bl_trans _ _ _ h h'
        rw [bl_irrefl] at this
        cases this
    have h2 : (a == b) = false := by
      rw [beq_eq_false_iff_ne]
      rintro rfl
      rw [bl_irrefl] at h
      cases h
    rw [h1, h2]
    rfl
  | false =>
    cases h' : Op.bytesLess a b with
    | true => rfl
    | false =>
      have := bl_tri _ _ h' h
      subst this
      simp
def turned (lo hi : ByteArray) : Bool := !hi.toList.isEmpty && klt hi lo
set_option maxRecDepth 100000 in
theorem isTurned_any (lo hi : ByteArray) (w : World) : Calls Tryz.prog 110 #[.agg #[.string lo, .string hi]] w fun e w' => e = .returned (.bool (turned lo hi)) ∧ Below w.heap.size w w' := by
  have hk : klt hi lo = Op.bytesLess hi.toList lo.toList := rfl
  have hg := bl_gtr lo.toList hi.toList
  unfold turned
  rw [hk, ← hg]
  clear hk hg
  cases he : hi.toList.isEmpty with
  | true =>
    have h0 : hi.toList = [] := List.isEmpty_iff.1 he
    go_enter Tryz.func110, Tryz.ntmps110
    go_wp2
    go_ret
    exact ⟨rfl, (by repeat (first | assumption | exact Below.refl _ _ | (refine below_step (w := ?_) ?_ ?_ ?_; rotate_left 2; assumption) | refine Below.drew ?_ | refine below_drewN ?_ _ | refine Below.alloc ?_ ?_ _ | refine Below.setCell ?_ ?_ _ | (focus (simp; done)) | (focus (simp; omega)) | omega))⟩
  | false =>
    rw [Bool.not_false, Bool.true_and]
    generalize hb : (!Op.bytesLess lo.toList hi.toList && !lo.toList == hi.toList) = b
    go_enter Tryz.func110, Tryz.ntmps110
    go_wp2
    go_ret
    exact ⟨rfl, (by repeat (first | assumption | exact Below.refl _ _ | (refine below_step (w := ?_) ?_ ?_ ?_; rotate_left 2; assumption) | refine Below.drew ?_ | refine below_drewN ?_ _ | refine Below.alloc ?_ ?_ _ | refine Below.setCell ?_ ?_ _ | (focus (simp; done)) | (focus (simp; omega)) | omega))⟩
set_option maxRecDepth 100000 in
theorem rangeIs_any (lo hi : ByteArray) (w : World) : Calls Tryz.prog 80 #[.agg #[.string lo, .string hi]] w fun e w' => e = .returned (.bool (isRng lo hi)) ∧ Below w.heap.size w w' := by
  have ht := fun W => isTurned_any lo hi W
  have hr : isRng lo hi = (decide ((lo.size : Int) ≤ 8) && (decide ((hi.size : Int) ≤ 8) && !turned lo hi)) := rfl
  rw [hr]
  clear hr
  generalize turned lo hi = t at *
  have HT := Lib.hid ht
  clear ht
  by_cases h1 : (lo.size : Int) ≤ 8
  · by_cases h2 : (hi.size : Int) ≤ 8
    · rw [decide_eq_true h1, decide_eq_true h2]
      go_enter Tryz.func80, Tryz.ntmps80
      go_wp2_with (go_at_call 110; (with_reducible refine (HT.out _).mono ?_); rintro e w1 ⟨rfl, hb1⟩)
      go_ret
      exact ⟨rfl, (by repeat (first | assumption | exact Below.refl _ _ | (refine below_step (w := ?_) ?_ ?_ ?_; rotate_left 2; assumption) | refine Below.drew ?_ | refine below_drewN ?_ _ | refine Below.alloc ?_ ?_ _ | refine Below.setCell ?_ ?_ _ | (focus (simp; done)) | (focus (simp; omega)) | omega))⟩
    · rw [decide_eq_true h1, decide_eq_false h2]
      go_enter Tryz.func80, Tryz.ntmps80
      go_wp2
      go_ret
      exact ⟨rfl, (by repeat (first | assumption | exact Below.refl _ _ | (refine below_step (w := ?_) ?_ ?_ ?_; rotate_left 2; assumption) | refine Below.drew ?_ | refine below_drewN ?_ _ | refine Below.alloc ?_ ?_ _ | refine Below.setCell ?_ ?_ _ | (focus (simp; done)) | (focus (simp; omega)) | omega))⟩
  · rw [decide_eq_false h1]
    go_enter Tryz.func80, Tryz.ntmps80
    go_wp2
    go_ret
    exact ⟨rfl, (by repeat (first | assumption | exact Below.refl _ _ | (refine below_step (w := ?_) ?_ ?_ ?_; rotate_left 2; assumption) | refine Below.drew ?_ | refine below_drewN ?_ _ | refine Below.alloc ?_ ?_ _ | refine Below.setCell ?_ ?_ _ | (focus (simp; done)) | (focus (simp; omega)) | omega))⟩
def hasR (lo hi k : ByteArray) : Bool := isKey k && (!klt k lo && (hi.toList.isEmpty || klt k hi))
set_option maxRecDepth 100000 in
theorem rangeHas_any (lo hi k : ByteArray) (w : World) : Calls Tryz.prog 111 #[.agg #[.string lo, .string hi], .string k] w fun e w' => e = .returned (.bool (hasR lo hi k)) ∧ Below w.heap.size w w' := by
  have hi1 := fun W => keyIs_any k W
  have h1 : klt k lo = Op.bytesLess k.toList lo.toList := rfl
  have h2 : klt k hi = Op.bytesLess k.toList hi.toList := rfl
  unfold hasR
  rw [h1, h2]
  clear h1 h2
  generalize isKey k = b1 at *
  generalize hb2 : Op.bytesLess k.toList lo.toList = b2 at *
  generalize hb3 : Op.bytesLess k.toList hi.toList = b3 at *
  have HI := Lib.hid hi1
  clear hi1
  cases b1 with
  | false =>
    go_enter Tryz.func111, Tryz.ntmps111
    go_wp2_with (go_at_call 31; (with_reducible refine (HI.out _).mono ?_); rintro e w1 ⟨rfl, hb1⟩; have hbx := box_cells hb1; have d0 : w1.cell? ⟨w.heap.size, 0, none⟩ = some (.string lo) := (by rw [Lib.cell_of_heap hbx]; rfl); have d1 : w1.cell? ⟨w.heap.size, 1, none⟩ = some (.string hi) := (by rw [Lib.cell_of_heap hbx]; rfl); clear hbx)
    go_ret
    exact ⟨rfl, (by repeat (first | assumption | exact Below.refl _ _ | (refine below_step (w := ?_) ?_ ?_ ?_; rotate_left 2; assumption) | refine Below.drew ?_ | refine below_drewN ?_ _ | refine Below.alloc ?_ ?_ _ | refine Below.setCell ?_ ?_ _ | (focus (simp; done)) | (focus (simp; omega)) | omega))⟩
  | true =>
    cases b2 with
    | true =>
      go_enter Tryz.func111, Tryz.ntmps111
      go_wp2_with (go_at_call 31; (with_reducible refine (HI.out _).mono ?_); rintro e w1 ⟨rfl, hb1⟩; have hbx := box_cells hb1; have d0 : w1.cell? ⟨w.heap.size, 0, none⟩ = some (.string lo) := (by rw [Lib.cell_of_heap hbx]; rfl); have d1 : w1.cell? ⟨w.heap.size, 1, none⟩ = some (.string hi) := (by rw [Lib.cell_of_heap hbx]; rfl); clear hbx)
      go_ret
      exact ⟨rfl, (by repeat (first | assumption | exact Below.refl _ _ | (refine below_step (w := ?_) ?_ ?_ ?_; rotate_left 2; assumption) | refine Below.drew ?_ | refine below_drewN ?_ _ | refine Below.alloc ?_ ?_ _ | refine Below.setCell ?_ ?_ _ | (focus (simp; done)) | (focus (simp; omega)) | omega))⟩
    | false =>
      cases he : hi.toList.isEmpty with
      | true =>
        have h0 : hi.toList = [] := List.isEmpty_iff.1 he
        go_enter Tryz.func111, Tryz.ntmps111
        go_wp2_with (go_at_call 31; (with_reducible refine (HI.out _).mono ?_); rintro e w1 ⟨rfl, hb1⟩; have hbx := box_cells hb1; have d0 : w1.cell? ⟨w.heap.size, 0, none⟩ = some (.string lo) := (by rw [Lib.cell_of_heap hbx]; rfl); have d1 : w1.cell? ⟨w.heap.size, 1, none⟩ = some (.string hi) := (by rw [Lib.cell_of_heap hbx]; rfl); clear hbx)
        go_ret
        exact ⟨rfl, (by repeat (first | assumption | exact Below.refl _ _ | (refine below_step (w := ?_) ?_ ?_ ?_; rotate_left 2; assumption) | refine Below.drew ?_ | refine below_drewN ?_ _ | refine Below.alloc ?_ ?_ _ | refine Below.setCell ?_ ?_ _ | (focus (simp; done)) | (focus (simp; omega)) | omega))⟩
      | false =>
        go_enter Tryz.func111, Tryz.ntmps111
        go_wp2_with (go_at_call 31; (with_reducible refine (HI.out _).mono ?_); rintro e w1 ⟨rfl, hb1⟩; have hbx := box_cells hb1; have d0 : w1.cell? ⟨w.heap.size, 0, none⟩ = some (.string lo) := (by rw [Lib.cell_of_heap hbx]; rfl); have d1 : w1.cell? ⟨w.heap.size, 1, none⟩ = some (.string hi) := (by rw [Lib.cell_of_heap hbx]; rfl); clear hbx)
        go_ret
        exact ⟨rfl, (by repeat (first | assumption | exact Below.refl _ _ | (refine below_step (w := ?_) ?_ ?_ ?_; rotate_left 2; assumption) | refine Below.drew ?_ | refine below_drewN ?_ _ | refine Below.alloc ?_ ?_ _ | refine Below.setCell ?_ ?_ _ | (focus (simp; done)) | (focus (simp; omega)) | omega))⟩
theorem take_snocR {α : Type} {l : List α} {k : Nat} {x : α} (h : l[k]? = some x) : l.take (k + 1) = l.take k ++ [x] := by rw [List.take_add_one, h]; rfl
/-- the items of a range -/
def withinL (lo hi : ByteArray) (l : List Itm) : List Itm := l.filter fun x => hasR lo hi x.key
theorem within_take {lo hi : ByteArray} {l : List Itm} {k : Nat} {y : Itm} (hy : l[k]? = some y) : withinL lo hi (l.take (k + 1)) = if hasR lo hi y.key = true then withinL lo hi (l.take k) ++ [y] else withinL lo hi (l.take k) := by
  unfold withinL
  rw [take_snocR hy, List.filter_append]
  by_cases e : hasR lo hi y.key = true
  · rw [if_pos e]; simp [e]
  · rw [if_neg e]; simp [e]
theorem within_len (lo hi : ByteArray) (l : List Itm) : (withinL lo hi l).length ≤ l.length := List.length_filter_le _ _
end Go.Proofs.YtdfgdnaejnngoaaGreat
namespace Go.Proofs.YtdfgdnaejnngoaaGreat
open Go.RowKit
theorem itm_rowR {w : World} {A : Option Addr} {zs : List Itm} (hel : Elems w A 2 (zs.map Itm.cells)) {k : Nat} {y : Itm} (hy : zs[k]? = some y) : ∃ b off, A = some ⟨b, off, none⟩ ∧ b < w.heap.size ∧ w.cell? ⟨b, off + k * 2, none⟩ = some (.string y.key) ∧ w.cell? ⟨b, off + k * 2 + 1, none⟩ = some (.string y.val) := by
  obtain ⟨b, off, rfl, hlt, hc⟩ := hel k y.cells (by simp [hy])
  exact ⟨b, off, rfl, hlt, by simpa using hc 0 _ rfl, hc 1 _ rfl⟩
theorem own_geR {w : World} {B q : Nat} {v : Value} {l : List Itm} (h : OwnsM w B v l) (hq : q < B) (e : v.ownBlock = some q) : False := by
  rcases h.2 with ⟨he, _⟩ | ⟨g, cap', cur, he, hb, _⟩
  · rw [he] at e; cases e
  · rw [he] at e
    simp only [Value.ownBlock, Option.some.injEq] at e
    omega
theorem ownM_drewNR {w : World} {B : Nat} {v : Value} {l : List Itm} (h : OwnsM w B v l) (n : Nat) : OwnsM (w.drewN n) B v l := h
theorem own_nil {w : World} {B n cap : Nat} {A : Option Addr} {l : List Itm} (h : OwnsM w B (.slice A n cap) l) : A = none → cap = 0 := by
  rintro rfl
  rcases h.2 with ⟨he, _⟩ | ⟨g, cap', cur, he, hb, _⟩
  · simp at he; exact he.2
  · simp at he
theorem own_at {w : World} {B n cap : Nat} {A : Option Addr} {l : List Itm} (h : OwnsM w B (.slice A n cap) l) : ∀ ad, A = some ad → B ≤ ad.block := by
  rintro ad rfl
  rcases h.2 with ⟨he, _⟩ | ⟨g, cap', cur, he, hb, _⟩
  · simp at he
  · simp at he
    rw [he.1]
    exact hb
set_option maxHeartbeats 1000000 in
set_option maxRecDepth 100000 in
theorem within_any (b cap : Nat) (A : Option Addr) (lo hi : ByteArray) (l : List Itm) (w : World) (h : LeafAt w b A cap l) (hl : l.length ≤ 70000) : Calls Tryz.prog 81 #[.pointer (some ⟨b, 0, none⟩), .agg #[.string lo, .string hi]] w
    fun e w' => ∃ b' A' c', e = .returned (.pointer (some ⟨b', 0, none⟩)) ∧ LeafAt w' b' A' c' (withinL lo hi l) ∧ w.heap.size ≤ b' ∧ (∀ ad, A' = some ad → w.heap.size ≤ ad.block) ∧ Below w.heap.size w w' := by
  have hha := fun k W => rangeHas_any lo hi k W
  have hwr : Rises (withinL lo hi l) := rises_filter _ h.rises
  have hwo : ∀ y ∈ withinL lo hi l, y.ok := fun y hy => h.oks y (List.mem_filter.1 hy).1
  have HL := Lib.hid h
  have HH := Lib.hid hha
  have HR := Lib.hid hwr
  have HO := Lib.hid hwo
  have c00 := h.c0
  have hbl := h.lt
  have hnil := h.nil
  have HNL := Lib.hid hnil
  clear h hha hwr hwo hnil
  go_enter Tryz.func81, Tryz.ntmps81
  go_wp2
  have hb0 : Below w.heap.size w (w.alloc (.cells #[.string lo, .string hi] 97)) := below_alloc (Below.refl _ w)
  have hx0 : (w.alloc (.cells #[.string lo, .string hi] 97)).heap[w.heap.size]? = some (.cells #[.string lo, .string hi] 97 (0, 0)) := heap_alloc_new w _
  have HB0 := Lib.hid hb0
  have HX0 := Lib.hid hx0
  clear hb0 hx0
  go_loopw [15, 5, 7] (fun i v _ wr => ∃ (k c2 : Nat) (A2 : Option Addr), i = .int .i64 k ∧ k ≤ l.length ∧ v = .slice A2 (withinL lo hi (l.take k)).length c2 ∧ OwnsM wr (w.heap.size + 1) (.slice A2 (withinL lo hi (l.take k)).length c2) (withinL lo hi (l.take k)) ∧ Below w.heap.size w wr ∧ wr.heap[w.heap.size]? = some (.cells #[.string lo, .string hi] 97 (0, 0))) (fun i _ _ _ => l.length + 1 - (intOf i).toNat)
  case atStart => exact ⟨0, 0, none, rfl, Nat.zero_le _, rfl, OwnsG.nil _ _, HB0.out, HX0.out⟩
  case round =>
    obtain ⟨k, c2, A2, rfl, hk, rfl, how, hbel, hbox⟩ := hrel
    by_cases hkl : k < l.length
    · have hkI : (k : Int) < (l.length : Int) := by omega
      obtain ⟨y, hy⟩ := get_lt hkl
      obtain ⟨g, off, rfl, hglt, d0, d1⟩ := itm_rowR ((HL.out.els).below hbel) hy
      have x0 : wr.cell? ⟨w.heap.size, 0, none⟩ = some (.string lo) := by rw [Lib.cell_of_heap hbox]; rfl
      have x1 : wr.cell? ⟨w.heap.size, 1, none⟩ = some (.string hi) := by rw [Lib.cell_of_heap hbox]; rfl
      have hxl := lt_of_row hbox
      have hwt := within_take (lo := lo) (hi := hi) hy
      have hwl := within_len lo hi (l.take k)
      have htl : (l.take k).length ≤ 70000 := by rw [List.length_take]; omega
      have hha := fun W => HH.out y.key W
      have HOW := Lib.hid how
      have HBEL := Lib.hid hbel
      have HBX := Lib.hid hbox
      cases hq : hasR lo hi y.key with
      | false =>
        rw [hq, if_neg (by decide)] at hwt
        rw [hq] at hha
        have HWT := Lib.hid hwt
        have HHA := Lib.hid hha
        clear hwt hha hq how hbel hbox hy
        obtain ⟨yk, yv⟩ := y
        dsimp only at d0 d1 HHA
        generalize withinL lo hi (l.take k) = D at *
        go_wp2_with (go_at_call 111; (with_reducible refine (HHA.out _).mono ?_); rintro e w1 ⟨rfl, hb1⟩; have HB1 := Lib.hid (below_next (below_alloc (o := .cells #[.string yk, .string yv] 41) (Below.refl _ wr)) hb1); clear hb1)
        refine ⟨⟨k + 1, c2, A2, by go_num, by omega, by rw [HWT.out], by rw [HWT.out]; exact HOW.out.below HB1.out, below_next HBEL.out HB1.out, (Fr.of_below (S := fun _ => False) HB1.out).row id HBX.out⟩, ?_⟩
        simp [intOf]
        omega
      | true =>
        rw [hq, if_pos rfl] at hwt
        rw [hq] at hha
        have HWT := Lib.hid hwt
        have HHA := Lib.hid hha
        clear hwt hha hq how hbel hbox hy
        obtain ⟨yk, yv⟩ := y
        dsimp only at d0 d1 HHA
        generalize withinL lo hi (l.take k) = D at *
        go_wp2_with (first
          | (go_at_call 111; (with_reducible refine (HHA.out _).mono ?_); rintro e w1 ⟨rfl, hb1⟩; have hbx := box_cells hb1; have z0 : w1.cell? ⟨wr.heap.size, 0, none⟩ = some (.string yk) := (by rw [Lib.cell_of_heap hbx]; rfl); have z1 : w1.cell? ⟨wr.heap.size, 1, none⟩ = some (.string yv) := (by rw [Lib.cell_of_heap hbx]; rfl); have HB1 := Lib.hid (below_next (below_alloc (o := .cells #[.string yk, .string yv] 41) (Below.refl _ wr)) hb1); clear hb1 hbx)
          | (at_builtin; go_loud (refine itm_append rfl (some 26) rfl _ _ rfl (w.heap.size + 1) (.slice A2 D.length c2) D [⟨yk, yv⟩] 1 ⟨w1.heap.size, 0, none⟩ 1 rfl rfl rfl (OwnsG.alloc (f := Itm.cells) (k := 2) (e := 41) (HOW.out.below HB1.out) _) (by simpa using ItmAt.cells (x := ⟨yk, yv⟩) (T := 41) (heap_alloc_new w1 _)) (by simp; omega) (by have := HB1.out.size; simp; omega) (D.length + 1) (by simp) ?_; intro A3 c3 w3 ho3 hf3; have HO3 := Lib.hid ho3; have HF3 := Lib.hid hf3; clear ho3 hf3)))
        have hb1w : Below w.heap.size w (w1.alloc (.cells #[.string yk, .string yv] 41)) := below_alloc (below_next HBEL.out HB1.out)
        refine ⟨⟨k + 1, c3, A3, by go_num, by omega, by rw [HWT.out, List.length_append]; rfl, by rw [HWT.out, List.length_append]; exact HO3.out, hb1w.trans (HF3.out.to_below hb1w.size (fun q hq e => own_geR HOW.out (by omega) e)), HF3.out.row (fun e => own_geR HOW.out (Nat.lt_succ_self _) e) ((Fr.of_below (S := fun _ => False) (below_alloc HB1.out)).row id HBX.out)⟩, ?_⟩
        simp [intOf]
        omega
    · obtain rfl : k = l.length := by omega
      rw [List.take_length] at how
      rw [List.take_length]
      have hwl := within_len lo hi l
      have hma := made_any A2 c2 (withinL lo hi l) wr (how.elems Itm.clen) HR.out HO.out (own_nil how) (by omega)
      have hfr := own_at (how.base (Nat.le_succ _))
      have HMA := Lib.hid hma
      have HFR := Lib.hid hfr
      have HB := Lib.hid hbel
      clear hma hfr hbel how
      generalize hD : withinL lo hi l = D at *
      have HD := Lib.hid hD
      clear hD
      go_wp2_with (go_at_call 89; (with_reducible refine HMA.out.mono ?_); rintro e w3 ⟨b3, rfl, hla, hle, hb3⟩)
      go_ret
      exact ⟨b3, A2, c2, rfl, by rw [HD.out]; exact hla, Nat.le_trans HB.out.size hle, HFR.out, below_next HB.out hb3⟩
end Go.Proofs.YtdfgdnaejnngoaaGreat
