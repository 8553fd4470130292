import Derived.Test.YtdfgdnaejnngoaaGreatJx4
import Derived.Test.YtdfgdnaejnngoaaGreatJx3
set_option linter.unusedVariables false
set_option linter.unusedSimpArgs false
namespace Go.Proofs.YtdfgdnaejnngoaaGreat
open Go.RowKit
/-! leaf.With: what messages make of a leaf. -/
def doAll (l : List Itm) (ms : List Mg) : List Itm := ms.foldl doL l
theorem rises_all : ∀ (ms : List Mg) {l : List Itm}, Rises l → Rises (doAll l ms)
  | [], _, h => h
  | m :: ms, _, h => rises_all ms (rises_do h m)
theorem oks_all : ∀ (ms : List Mg) {l : List Itm}, (∀ y ∈ l, y.ok) → (∀ m ∈ ms, isMsg m = true) → ∀ y ∈ doAll l ms, y.ok
  | [], _, h, _ => h
  | m :: ms, _, h, hm => oks_all ms (oks_do h (hm m (by simp))) (fun x hx => hm x (by simp [hx]))
theorem len_all : ∀ (ms : List Mg) {l : List Itm}, Rises l → (doAll l ms).length ≤ l.length + ms.length
  | [], _, _ => Nat.le_refl _
  | m :: ms, l, h => by
    have h1 := len_all ms (rises_do h m)
    have h2 := put_len h m.key (applyO m (getL l m.key))
    show (doAll (doL l m) ms).length ≤ _
    unfold doL at h1 ⊢
    rw [List.length_cons]
    omega
theorem all_snoc (l : List Itm) (ms : List Mg) (k : Nat) (x : Mg) (h : ms[k]? = some x) : doAll l (ms.take (k + 1)) = doL (doAll l (ms.take k)) x := by
  unfold doAll
  rw [List.take_add_one, h, Option.toList_some, List.foldl_append]
  rfl
theorem Mg.clen (x : Mg) : x.cells.length = 3 := rfl
theorem mg_row {w : World} {Am : Option Addr} {ms : List Mg} (hm : Elems w Am 3 (ms.map Mg.cells)) {k : Nat} {x : Mg} (hx : ms[k]? = some x) : ∃ b off, Am = some ⟨b, off, none⟩ ∧ b < w.heap.size ∧ w.cell? ⟨b, off + k * 3, none⟩ = some (.int .i64 x.kind) ∧ w.cell? ⟨b, off + k * 3 + 1, none⟩ = some (.string x.key) ∧ w.cell? ⟨b, off + k * 3 + 2, none⟩ = some (.string x.val) := by
  obtain ⟨b, off, e, hlt, hc⟩ := hm k x.cells (by simp [hx])
  exact ⟨b, off, e, hlt, hc 0 _ rfl, hc 1 _ rfl, hc 2 _ rfl⟩
set_option maxHeartbeats 1000000 in
set_option maxRecDepth 100000 in
theorem with_bad (b cap c : Nat) (A Am : Option Addr) (l : List Itm) (ms : List Mg) (w : World) (hm : Elems w Am 3 (ms.map Mg.cells)) (hn : ms.length ≤ 1000) (hbad : ms.all isMsg = false) :
    Calls Tryz.prog 58 #[.pointer (some ⟨b, 0, none⟩), .slice Am ms.length c] w fun e w' => e = .returned (.tuple #[.pointer none, .int .i64 1]) ∧ Below w.heap.size w w' := by
  have HM := Lib.hid hm
  have HB := Lib.hid hbad
  have HI := Lib.hid (fun x W => msgIs_any x W)
  clear hm hbad
  go_enter Tryz.func58, Tryz.ntmps58
  go_wp2
  go_loopw [16, 7] (fun i _ wr => ∃ k : Nat, i = .int .i64 k ∧ k ≤ ms.length ∧ (∀ j x, j < k → ms[j]? = some x → isMsg x = true) ∧ Below w.heap.size w wr) (fun i _ _ => ms.length + 1 - (intOf i).toNat)
  case atStart => exact ⟨0, rfl, Nat.zero_le _, fun j x hj => by omega, (by repeat (first | assumption | exact Below.refl _ _ | (refine below_step (w := ?_) ?_ ?_ ?_; rotate_left 2; assumption) | refine Below.drew ?_ | refine below_drewN ?_ _ | refine Below.alloc ?_ ?_ _ | refine Below.setCell ?_ ?_ _ | (focus (simp; done)) | (focus (simp; omega)) | omega))⟩
  case round =>
    obtain ⟨k, rfl, hk, hok, hbel⟩ := hrel
    by_cases hkl : k < ms.length
    · have hkI : (k : Int) < (ms.length : Int) := by omega
      obtain ⟨x, hx⟩ := get_lt hkl
      obtain ⟨bm, off, rfl, hblt, d0, d1, d2⟩ := mg_row (HM.out.below hbel) hx
      have HOK := Lib.hid hok
      have HX := Lib.hid hx
      clear hok hx
      have hI := fun W => HI.out x W
      obtain ⟨kind, xk, xv⟩ := x
      dsimp only at d0 d1 d2
      rw [Mg.v_def] at hI
      dsimp only at hI
      generalize hq : isMsg ⟨kind, xk, xv⟩ = q at hI
      have HQ := Lib.hid hq
      have HI2 := Lib.hid hI
      clear hq hI
      cases q
      · go_wp2_with (go_at_call 91; (with_reducible refine (HI2.out _).mono ?_); rintro e w1 ⟨rfl, hb1⟩)
        (try simp only [Exit.inBlock, Exit.then])
        refine bodyPost_ret (results_tmp2 rfl _ _ _) rfl ⟨rfl, below_next (below_alloc hbel) hb1⟩
      · go_wp2_with (go_at_call 91; (with_reducible refine (HI2.out _).mono ?_); rintro e w1 ⟨rfl, hb1⟩; have HB1 := Lib.hid (below_next (below_alloc hbel) hb1); clear hb1)
        refine ⟨⟨k + 1, by go_num, by omega, ?_, HB1.out⟩, ?_⟩
        · intro j y hj hy
          by_cases e : j = k
          · subst e
            rw [HX.out] at hy
            cases hy
            exact HQ.out
          · exact HOK.out j y (by omega) hy
        · simp [intOf]
          omega
    · exfalso
      have := HB.out
      rw [List.all_eq_false] at this
      obtain ⟨x, hx, hxb⟩ := this
      obtain ⟨j, hj⟩ := List.getElem?_of_mem hx
      exact hxb (hok j x (by have := (List.getElem?_eq_some_iff.1 hj).1; omega) hj)
set_option maxHeartbeats 1000000 in
set_option maxRecDepth 100000 in
theorem with_ok (b cap c : Nat) (A Am : Option Addr) (l : List Itm) (ms : List Mg) (w : World) (h : LeafAt w b A cap l) (hl : l.length ≤ 70000) (hm : Elems w Am 3 (ms.map Mg.cells)) (hn : ms.length ≤ 1000) (hgood : ∀ m ∈ ms, isMsg m = true) :
    Calls Tryz.prog 58 #[.pointer (some ⟨b, 0, none⟩), .slice Am ms.length c] w fun e w' => ∃ b' A' cap', e = .returned (.tuple #[.pointer (some ⟨b', 0, none⟩), .int .i64 0]) ∧ LeafAt w' b' A' cap' (doAll l ms) ∧ w.heap.size ≤ b' ∧ (∀ ad, A' = some ad → w.heap.size ≤ ad.block) ∧ Below w.heap.size w w' := by
  have HM := Lib.hid hm
  have HG := Lib.hid hgood
  have HL := Lib.hid h
  have HI := Lib.hid (fun x W => msgIs_any x W)
  clear hm hgood h
  go_enter Tryz.func58, Tryz.ntmps58
  go_wp2
  go_loopw [16, 7] (fun i _ wr => ∃ k : Nat, i = .int .i64 k ∧ k ≤ ms.length ∧ Below w.heap.size w wr) (fun i _ _ => ms.length + 1 - (intOf i).toNat)
  case atStart => exact ⟨0, rfl, Nat.zero_le _, (by repeat (first | assumption | exact Below.refl _ _ | (refine below_step (w := ?_) ?_ ?_ ?_; rotate_left 2; assumption) | refine Below.drew ?_ | refine below_drewN ?_ _ | refine Below.alloc ?_ ?_ _ | refine Below.setCell ?_ ?_ _ | (focus (simp; done)) | (focus (simp; omega)) | omega))⟩
  case round =>
    obtain ⟨k, rfl, hk, hbel⟩ := hrel
    by_cases hkl : k < ms.length
    · have hkI : (k : Int) < (ms.length : Int) := by omega
      obtain ⟨x, hx⟩ := get_lt hkl
      obtain ⟨bm, off, rfl, hblt, d0, d1, d2⟩ := mg_row (HM.out.below hbel) hx
      have hI := fun W => HI.out x W
      rw [HG.out x (List.mem_of_getElem? hx)] at hI
      clear hx
      obtain ⟨kind, xk, xv⟩ := x
      dsimp only at d0 d1 d2
      rw [Mg.v_def] at hI
      have HI2 := Lib.hid hI
      clear hI
      go_wp2_with (go_at_call 91; (with_reducible refine (HI2.out _).mono ?_); rintro e w1 ⟨rfl, hb1⟩; have HB1 := Lib.hid (below_next (below_alloc hbel) hb1); clear hb1)
      refine ⟨⟨k + 1, by go_num, by omega, HB1.out⟩, ?_⟩
      simp [intOf]
      omega
    · obtain rfl : k = ms.length := by omega
      have hit := items_any b cap A l wr (HL.out.below hbel) (by omega)
      have HIT := Lib.hid hit
      have HB0 := Lib.hid hbel
      clear hit hbel
      go_wp2_with (go_at_call 54; (with_reducible refine HIT.out.mono ?_); rintro e w1 ⟨A1, c1, rfl, ho1, hb1⟩; have HO1 := Lib.hid ho1; have HB1 := Lib.hid (below_next HB0.out hb1); clear hb1 ho1)
      have hdo : DoAt (w1.alloc (.cells #[.slice A1 l.length c1, .int .i64 0] 139)) w.heap.size w1.heap.size A1 c1 (doAll l (ms.take 0)) := ⟨heap_alloc_new w1 _, (HO1.out.alloc _).base HB0.out.size⟩
      have hbel2 : Below w.heap.size w (w1.alloc (.cells #[.slice A1 l.length c1, .int .i64 0] 139)) := below_alloc HB1.out
      have hob : w.heap.size ≤ w1.heap.size := HB1.out.size
      have HDO := Lib.hid hdo
      have HBL2 := Lib.hid hbel2
      clear hdo hbel2 HO1
      generalize w1.alloc (.cells #[.slice A1 l.length c1, .int .i64 0] 139) = W2 at *
      generalize w1.heap.size = ob at *
      go_loopw [32, 11] (fun i _ wr2 => ∃ (k : Nat) (A2 : Option Addr) (c2 : Nat), i = .int .i64 k ∧ k ≤ ms.length ∧ DoAt wr2 w.heap.size ob A2 c2 (doAll l (ms.take k)) ∧ Below w.heap.size w wr2) (fun i _ _ => ms.length + 1 - (intOf i).toNat)
      case atStart => exact ⟨0, A1, c1, rfl, Nat.zero_le _, HDO.out, HBL2.out⟩
      case round =>
        obtain ⟨j, A2, c2, rfl, hj, hdo, hbel⟩ := hrel
        have hlen : (doAll l (ms.take j)).length ≤ 71000 := by
          have := len_all (ms.take j) HL.out.rises
          rw [List.length_take] at this
          omega
        have hri : Rises (doAll l (ms.take j)) := rises_all _ HL.out.rises
        by_cases hjl : j < ms.length
        · have hjI : (j : Int) < (ms.length : Int) := by omega
          obtain ⟨x, hx⟩ := get_lt hjl
          obtain ⟨bm, off, rfl, hblt, d0, d1, d2⟩ := mg_row (HM.out.below hbel) hx
          have hsn := all_snoc l ms j x hx
          have hcall : ∀ W, Below wr.heap.size wr W → Calls Tryz.prog 92 #[.pointer (some ⟨ob, 0, none⟩), x.v] W (DoRes w.heap.size ob A2 W (doAll l (ms.take j)).length c2 (doL (doAll l (ms.take j)) x)) := fun W hW =>
            do_any w.heap.size ob c2 A2 _ x W (hdo.below hW) (Nat.le_trans hbel.size hW.size) hri (by omega)
          rw [← hsn] at hcall
          have hown : ∀ q, (Value.slice A2 (doAll l (ms.take j)).length c2).ownBlock = some q → w.heap.size ≤ q := fun q e => by
            rcases hdo.own.2 with ⟨he, _⟩ | ⟨g, cap', cur, he, hb, hgg, _⟩
            · rw [he] at e; cases e
            · rw [he] at e
              simp only [Value.ownBlock, Option.some.injEq] at e
              omega
          have HC := Lib.hid (hcall _ (Below.alloc (Below.refl _ wr) (Nat.le_refl _) (.cells #[.int .i64 x.kind, .string x.key, .string x.val] 90)))
          have HOW := Lib.hid hown
          have HBL3 := Lib.hid hbel
          clear hcall hown hbel hsn hx hdo hri
          obtain ⟨kind, xk, xv⟩ := x
          dsimp only at d0 d1 d2 HC
          rw [Mg.v_def] at HC
          dsimp only at HC
          generalize hL2 : doAll l (ms.take (j + 1)) = L2 at HC
          have HL2 := Lib.hid hL2
          clear hL2
          generalize doAll l (ms.take j) = L1 at *
          go_wp2_with (go_at_call 92; (with_reducible refine HC.out.mono ?_); rintro e w3 ⟨rfl, A3, c3, hd3, hf3⟩; have HD3 := Lib.hid hd3; have HB3 := Lib.hid ((below_alloc (o := .cells #[.int .i64 kind, .string xk, .string xv] 90) HBL3.out).trans (hf3.to_below (B := w.heap.size) (Nat.le_trans HBL3.out.size (by simp)) (fun q hq e => by rcases e with e | e; omega; have := HOW.out q e; omega))); clear hd3 hf3)
          refine ⟨⟨j + 1, A3, c3, by go_num, by omega, by rw [HL2.out]; exact HD3.out, HB3.out⟩, ?_⟩
          simp [intOf]
          omega
        · obtain rfl : j = ms.length := by omega
          rw [List.take_length] at hdo hlen hri
          have hok := oks_all ms HL.out.oks HG.out
          have hnil : A2 = none → c2 = 0 := by
            intro e
            subst e
            rcases hdo.own.2 with ⟨he, _⟩ | ⟨g, cap', cur, he, _⟩
            · simp at he; exact he.2
            · simp at he
          have hfr : ∀ ad, A2 = some ad → w.heap.size ≤ ad.block := by
            rintro ad rfl
            rcases hdo.own.2 with ⟨he, _⟩ | ⟨g, cap', cur, he, hb, _⟩
            · simp at he
            · simp at he
              rw [he.1]
              exact hb
          have hma := made_any A2 c2 (doAll l ms) wr (hdo.own.elems Itm.clen) hri hok hnil (by omega)
          have c0 := hdo.c0
          have HMA := Lib.hid hma
          have HFR := Lib.hid hfr
          clear hfr
          have HBL3 := Lib.hid hbel
          clear hma hbel hdo hri hok hnil
          generalize hL1 : doAll l ms = L1 at *
          have HL1 := Lib.hid hL1
          clear hL1
          go_wp2_with (go_at_call 89; (with_reducible refine HMA.out.mono ?_); rintro e w3 ⟨b3, rfl, hla, hle, hb3⟩)
          (try simp only [Exit.inBlock, Exit.then])
          refine bodyPost_ret (results_tmp2 rfl _ _ _) rfl ⟨b3, A2, c2, rfl, by rw [HL1.out]; exact hla, Nat.le_trans HBL3.out.size hle, HFR.out, below_next HBL3.out hb3⟩
end Go.Proofs.YtdfgdnaejnngoaaGreat
namespace Go.Proofs.YtdfgdnaejnngoaaGreat
open Go.RowKit
/-! The model in memory: its rows; now. -/
/-- a row of pointers to leaves, in block g from off on -/
structure RowsAt (w : World) (g off n cap : Nat) (ps : List Nat) : Prop where
  len : ps.length = n
  blk : ∃ cur : List Value, w.heap[g]? = some (.cells cur.toArray 98 (0, 0)) ∧ off + cap ≤ cur.length ∧ ∀ (j p : Nat), ps[j]? = some p → cur[off + j]? = some (.pointer (some ⟨p, 0, none⟩))
  le : n ≤ cap
  cm : cap ≤ maxLen
theorem RowsAt.lt {w : World} {g off n cap : Nat} {ps : List Nat} (h : RowsAt w g off n cap ps) : g < w.heap.size := by
  obtain ⟨cur, hg, _⟩ := h.blk
  exact lt_of_row hg
theorem RowsAt.fr {S : Nat → Prop} {w w' : World} {g off n cap : Nat} {ps : List Nat} (h : RowsAt w g off n cap ps) (hf : Fr S w w') (hs : ¬ S g) : RowsAt w' g off n cap ps := by
  obtain ⟨cur, hg, h1, h2⟩ := h.blk
  exact ⟨h.len, ⟨cur, hf.row hs hg, h1, h2⟩, h.le, h.cm⟩
theorem RowsAt.cell {w : World} {g off n cap : Nat} {ps : List Nat} (h : RowsAt w g off n cap ps) {j p : Nat} (hp : ps[j]? = some p) : w.cell? ⟨g, off + j, none⟩ = some (.pointer (some ⟨p, 0, none⟩)) := by
  obtain ⟨cur, hg, h1, h2⟩ := h.blk
  rw [Lib.cell_of_heap hg]
  simpa using h2 j p hp
/-- items that lie in neither block -/
def Apart (A : Option Addr) (l : List Itm) (bm g : Nat) : Prop := l ≠ [] → ∀ ad, A = some ad → ad.block ≠ bm ∧ ad.block ≠ g
structure ModelAt (w : World) (bm g : Nat) (N : Int) (ls : List (List Itm)) : Prop where
  row : ∃ off n cap ps, w.heap[bm]? = some (.cells (planA N ++ #[.slice (some ⟨g, off, none⟩) n cap]) 102 (0, 0)) ∧ RowsAt w g off n cap ps ∧ ps.length = ls.length ∧ ∀ (j p : Nat) (l : List Itm), ps[j]? = some p → ls[j]? = some l → ∃ A c, LeafAt w p A c l ∧ Apart A l bm g
  pos : 0 < ls.length
theorem ModelAt.lt {w : World} {bm g : Nat} {N : Int} {ls : List (List Itm)} (h : ModelAt w bm g N ls) : bm < w.heap.size := by
  obtain ⟨off, n, cap, ps, h1, _⟩ := h.row
  exact lt_of_row h1
theorem ModelAt.glt {w : World} {bm g : Nat} {N : Int} {ls : List (List Itm)} (h : ModelAt w bm g N ls) : g < w.heap.size := by
  obtain ⟨off, n, cap, ps, _, h1, _⟩ := h.row
  exact h1.lt
/-- blocks of another kind -/
theorem kinds_ne {w : World} {a b : Nat} {ca cb : Array Value} {ta tb : TypeId} {fa fb : Nat × Nat} (ha : w.heap[a]? = some (.cells ca ta fa)) (hb : w.heap[b]? = some (.cells cb tb fb)) (hne : ta ≠ tb) : a ≠ b := by
  rintro rfl
  rw [ha] at hb
  simp only [Option.some.injEq, Obj.cells.injEq] at hb
  exact hne hb.2.1
theorem LeafAt.fr {S : Nat → Prop} {w w' : World} {p c : Nat} {A : Option Addr} {l : List Itm} (h : LeafAt w p A c l) (hf : Fr S w w') (h1 : ¬ S p) (h2 : l ≠ [] → ∀ ad, A = some ad → ¬ S ad.block) : LeafAt w' p A c l := by
  refine ⟨hf.row h1 h.cell, ?_, h.rises, h.oks, h.nil⟩
  by_cases e : l = []
  · subst e
    intro i r hr
    simp at hr
  · exact h.els.fr hf (h2 e)
theorem LeafAt.alt {w : World} {p c : Nat} {A : Option Addr} {l : List Itm} (h : LeafAt w p A c l) (hl : l ≠ []) {ad : Addr} (e : A = some ad) : ad.block < w.heap.size := by
  obtain ⟨x, l', rfl⟩ := List.exists_cons_of_ne_nil hl
  obtain ⟨b, off, e2, hlt, _⟩ := h.els 0 x.cells rfl
  rw [e] at e2
  cases e2
  exact hlt
theorem ModelAt.below {w w' : World} {bm g : Nat} {N : Int} {ls : List (List Itm)} (h : ModelAt w bm g N ls) (hb : Below w.heap.size w w') : ModelAt w' bm g N ls := by
  obtain ⟨off, n, cap, ps, h1, h2, h3, h4⟩ := h.row
  refine ⟨⟨off, n, cap, ps, (Fr.of_below (S := fun _ => False) hb).row id h1, h2.fr (Fr.of_below (S := fun _ => False) hb) id, h3, fun j p l hp hl => ?_⟩, h.pos⟩
  obtain ⟨A, c, hla, hap⟩ := h4 j p l hp hl
  exact ⟨A, c, hla.below hb, hap⟩
theorem planA_def (N : Int) : planA N = #[.int .i64 N, .int .i64 (pLog N), .int .i64 (2 + pLog N), .int .i64 (pData N), .int .i64 (pHalf N), .int .i64 (pLeaves N), .int .i64 (pCap N)] := rfl
def NowRes (l : List Itm) (w : World) (e : Ending) (w' : World) : Prop := ∃ p A c, e = .returned (.pointer (some ⟨p, 0, none⟩)) ∧ LeafAt w' p A c l ∧ Below w.heap.size w w'
/-- what the last one is -/
theorem ModelAt.last {w : World} {bm g : Nat} {N : Int} {ls : List (List Itm)} (h : ModelAt w bm g N ls) {l : List Itm} (hl : ls[ls.length - 1]? = some l) : ∃ off n cap p A c, w.cell? ⟨bm, 7, none⟩ = some (.slice (some ⟨g, off, none⟩) (n + 1) cap) ∧ n + 1 = ls.length ∧ n + 1 ≤ cap ∧ cap ≤ maxLen ∧ w.cell? ⟨g, off + n, none⟩ = some (.pointer (some ⟨p, 0, none⟩)) ∧ LeafAt w p A c l := by
  obtain ⟨off, n, cap, ps, h1, h2, h3, h4⟩ := h.row
  have hp := h.pos
  have hn : n = ls.length := by rw [← h2.len, h3]
  obtain ⟨p, hps⟩ := get_lt (l := ps) (i := ls.length - 1) (by omega)
  obtain ⟨A, c, hla, _⟩ := h4 _ p l hps hl
  refine ⟨off, ls.length - 1, cap, p, A, c, ?_, by omega, by have := h2.le; omega, h2.cm, h2.cell hps, hla⟩
  rw [Lib.cell_of_heap h1, show ls.length - 1 + 1 = n by omega]
  rfl
set_option maxRecDepth 100000 in
theorem now_any (bm g : Nat) (N : Int) (ls : List (List Itm)) (l : List Itm) (w : World) (h : ModelAt w bm g N ls) (hl : ls[ls.length - 1]? = some l) (hn : ls.length ≤ 100000) : Calls Tryz.prog 48 #[.pointer (some ⟨bm, 0, none⟩)] w (NowRes l w) := by
  obtain ⟨off, n, cap, p, A, c, c7, hn1, hnc, hcm, cp, hla⟩ := h.last hl
  have HLA := Lib.hid hla
  have hw1 : IntKind.i64.wrap ((n : Int) + 1 - 1) = (n : Int) := by rw [IntKind.wrap_i64]; omega
  have hw2 : IntKind.i64.wrap (n : Int) = (n : Int) := by rw [IntKind.wrap_i64]; omega
  have hnI : (n : Int) < (n : Int) + 1 := by omega
  have hnI2 : (n : Int) ≤ 100000 := by omega
  clear h hl hla hn1 hcm
  go_enter Tryz.func48, Tryz.ntmps48
  go_wp2
  go_quiet (fail)
  go_wp2
  go_ret
  exact ⟨p, A, c, rfl, HLA.out.below (below_drewN (Below.refl _ w) _), below_drewN (Below.refl _ w) _⟩
theorem L_info : (Tryz.prog.info? 98).map (fun i => (i.zero, i.size, i.bytes)) = some (some (.pointer none), 1, 8) := by kernel_rfl
/-- a leaf more behind the others -/
theorem rows_append {ops : Array Oper} {rest : List Oper} {o : Oper} {a : Act} {w : World} {Q : Exit → Act → World → Prop} (hgd : o.guard = none) (N : Option Tmp) (hN : o.dst = N) (s x : Operand) (ho : o.op = .call { callee := .builtin .append, args := #[s, x], argTypes := #[100, 100] })
    (g off n cap vb p c : Nat) (ps : List Nat) (hs : a.eval s = .slice (some ⟨g, off, none⟩) n cap) (hx : a.eval x = .slice (some ⟨vb, 0, none⟩) 1 c) (hr : RowsAt w g off n cap ps) (hp : w.cell? ⟨vb, 0, none⟩ = some (.pointer (some ⟨p, 0, none⟩))) (hn : n ≤ 100000)
    (h : ∀ g' off' cap' w', RowsAt w' g' off' (n + 1) cap' (ps ++ [p]) → (g' = g ∨ w.heap.size ≤ g') → Fr (fun k => k = g) w w' → wpList Tryz.prog ops Q rest (a.put N (.slice (some ⟨g', off', none⟩) (n + 1) cap')) w') : wpList Tryz.prog ops Q (o :: rest) a w := by
  subst hN
  obtain ⟨i0, hi0, hz0, hz1, hz2⟩ := info_parts L_info
  obtain ⟨cur, hg, hfit, hcur⟩ := hr.blk
  have hlen := hr.len
  have hnews : ∀ j u, ([.pointer (some ⟨p, 0, none⟩)] : List Value)[j]? = some u → w.cell? ((⟨vb, 0, none⟩ : Addr).add j) = some u := by
    intro j u hj
    rcases j with _ | j
    · rw [Addr.add_mid]
      simp at hj
      subst hj
      exact hp
    · simp at hj
  have hone : ∀ u ∈ ([.pointer (some ⟨p, 0, none⟩)] : List Value), u.oneCell' = true := by
    intro u hu
    simp at hu
    subst hu
    rfl
  refine wpList_plain hgd fun K hK => ?_
  by_cases hroom : n + 1 ≤ cap
  · have hr2 := run_append_room_cells (P := Tryz.prog) w 100 o.type 98 i0 Tryz.underlying100 hi0 g off n cap ⟨vb, 0, none⟩ 1 c [.pointer (some ⟨p, 0, none⟩)] (by rw [hz1]; rfl) hnews hone hroom
      (by rw [hz1]; intro j hj; rw [Lib.cell_of_heap hg]; simp at hj ⊢; omega) (fun j _ => Lib.frozen_of_heap hg _)
    rw [hz1, Nat.mul_one] at hr2
    refine oper_runTo o.dst rfl _ _ (by
      unfold execOp
      simp only [ho, resolve, invoke, builtin, Sem.run_bind, Sem.run_pure, Result.andThen_ok, List.map_toArray, List.map_cons, List.map_nil, hs, hx]
      rw [hr2]
      rfl) (hK _ _ (h g off cap _ ⟨by simp [hlen], ⟨cur.set (off + n) (.pointer (some ⟨p, 0, none⟩)), ?_, by simpa using hfit, ?_⟩, hroom, hr.cm⟩ (.inl rfl) ?_))
    · have := setCell_row hg (off + n) (.pointer (some ⟨p, 0, none⟩))
      simpa [World.setCells] using this
    · intro j q hq
      by_cases hj : j < n
      · rw [List.getElem?_append_left (by omega)] at hq
        rw [List.getElem?_set_ne (by omega)]
        exact hcur j q hq
      · rw [List.getElem?_append_right (by omega)] at hq
        have hj2 : j = n := by
          by_cases e : j = n
          · exact e
          · rw [List.getElem?_eq_none (by simp; omega)] at hq
            cases hq
        subst hj2
        rw [hlen, Nat.sub_self] at hq
        simp at hq
        subst hq
        rw [List.getElem?_set_self (by omega)]
    · exact setCells_is_fr g _ w (off + n)
  · have hle := hr.le
    have hcn : cap = n := by omega
    have hsplit : (cur.drop off).take n = (cur.drop off).take n := rfl
    obtain ⟨v', w', hr2, hown, hgr⟩ := run_append_arg_grows (P := Tryz.prog) w 100 o.type 98 i0 (.pointer none) 1 8 Tryz.underlying100 hi0 hz0 hz1 hz2 rfl (by decide) ⟨g, off, none⟩ n cap ((cur.drop off).take n) (by rw [List.length_take, List.length_drop]; omega)
      (by
        intro j u hj
        rw [List.getElem?_take] at hj
        split at hj
        · rw [List.getElem?_drop] at hj
          rw [Addr.add_lit, Lib.cell_of_heap hg]
          simpa using hj
        · cases hj) ⟨vb, 0, none⟩ 1 c [.pointer (some ⟨p, 0, none⟩)] rfl hnews (by omega) (by unfold maxLen; omega) (by omega)
    rcases hown.2 with ⟨_, h0⟩ | ⟨g', cap', cur', hv', hb', hgg, hc1, hc2, hc3, htake⟩
    · omega
    · subst hv'
      refine oper_runTo o.dst rfl _ _ (by
        unfold execOp
        simp only [ho, resolve, invoke, builtin, Sem.run_bind, Sem.run_pure, Result.andThen_ok, List.map_toArray, List.map_cons, List.map_nil, hs, hx]
        rw [hr2]
        rfl) (hK _ _ (h g' 0 cap' w' ⟨by simp [hlen], ⟨cur'.toList, by simpa using hgg, by simp; omega, ?_⟩, hc1, hc2⟩ (.inr hb') ((Fr.refl _ w).grown hgr (fun i _ e => by cases e))))
      intro j q hq
      have hjl := (List.getElem?_eq_some_iff.1 hq).1
      have hjn : j < n + 1 := by simp [hlen] at hjl; omega
      have : (cur'.toList.take ((n + 1) * 1))[j]? = some (.pointer (some ⟨q, 0, none⟩)) := by
        rw [htake]
        by_cases hj : j < n
        · rw [List.getElem?_append_left (by omega)] at hq
          rw [List.getElem?_append_left (by rw [List.length_take, List.length_drop]; omega), List.getElem?_take, if_pos hj, List.getElem?_drop]
          exact hcur j q hq
        · have hj2 : j = n := by omega
          subst hj2
          rw [List.getElem?_append_right (by omega), hlen, Nat.sub_self] at hq
          simp at hq
          subst hq
          rw [List.getElem?_append_right (by rw [List.length_take, List.length_drop]; omega), List.length_take, List.length_drop, Nat.min_eq_left (by omega), Nat.sub_self]
          rfl
      rw [List.getElem?_take, if_pos (by omega)] at this
      rw [Nat.zero_add]
      exact this
end Go.Proofs.YtdfgdnaejnngoaaGreat
namespace Go.Proofs.YtdfgdnaejnngoaaGreat
open Go.RowKit
/-! Prune: the pure law. -/
def msgO (o : Ord) : Option Mg := if o.kind = 1 then some ⟨1, o.key, o.val⟩ else if o.kind = 2 then some ⟨2, o.key, ⟨#[]⟩⟩ else if o.kind = 3 then some ⟨3, o.key, valB o.n.toNat⟩ else none
def stepI (l : List Itm) (o : Ord) : List Itm := match msgO o with
  | some m => if isMsg m = true then doL l m else l
  | none => l
def itemsO (os : List Ord) : List Itm := os.foldl stepI []
def apK (k : ByteArray) (s : Option ByteArray) (o : Ord) : Option ByteArray := if o.key = k then (match msgO o with | some m => applyO m s | none => s) else s
def resetB (k : ByteArray) (o : Ord) : Bool := decide (o.key = k) && (decide (o.kind = 1) || decide (o.kind = 2))
def aliveB (o : Ord) (os : List Ord) : Bool := (decide (o.kind = 1) || decide (o.kind = 3)) && !os.any (resetB o.key)
def pruneL : List Ord → List Ord
  | [] => []
  | o :: os => if aliveB o os = true then o :: pruneL os else pruneL os
def aliveL (j : Nat) : List Ord → List Nat
  | [] => []
  | o :: os => if aliveB o os = true then j :: aliveL (j + 1) os else aliveL (j + 1) os
theorem applyO_not {m : Mg} (h : ¬ isMsg m = true) (s : Option ByteArray) : applyO m s = s := by unfold applyO; rw [if_neg h]
theorem applyO_put {m : Mg} (h : isMsg m = true) (h1 : m.kind = 1) (s : Option ByteArray) : applyO m s = some m.val := by unfold applyO; rw [if_pos h, if_neg (by omega), if_pos h1]
theorem applyO_del {m : Mg} (h : isMsg m = true) (h1 : m.kind = 2) (s : Option ByteArray) : applyO m s = none := by unfold applyO; rw [if_pos h, if_pos h1]
theorem msgO_key {o : Ord} {m : Mg} (h : msgO o = some m) : m.key = o.key := by
  unfold msgO at h
  split at h
  · cases h; rfl
  · split at h
    · cases h; rfl
    · split at h
      · cases h; rfl
      · cases h
theorem get_step (l : List Itm) (o : Ord) (k : ByteArray) : getL (stepI l o) k = apK k (getL l k) o := by
  unfold stepI apK
  cases hm : msgO o with
  | none => simp
  | some m =>
    have hk := msgO_key hm
    dsimp only
    by_cases h1 : isMsg m = true
    · rw [if_pos h1]
      unfold doL
      rw [get_put, hk]
      by_cases e : o.key = k
      · subst e; simp
      · have e' : ¬ k = o.key := fun e' => e e'.symm
        simp [e, e']
    · rw [if_neg h1, applyO_not h1]
      split <;> rfl
theorem get_steps (k : ByteArray) : ∀ (os : List Ord) (l : List Itm), getL (os.foldl stepI l) k = os.foldl (apK k) (getL l k)
  | [], l => rfl
  | o :: os, l => by rw [List.foldl_cons, List.foldl_cons, get_steps k os, get_step]
theorem rises_step {l : List Itm} (h : Rises l) (o : Ord) : Rises (stepI l o) := by
  unfold stepI
  split
  · split
    · exact rises_do h _
    · exact h
  · exact h
theorem oks_step {l : List Itm} (h : ∀ y ∈ l, y.ok) (o : Ord) : ∀ y ∈ stepI l o, y.ok := by
  unfold stepI
  split
  · split
    · next hm => exact oks_do h hm
    · exact h
  · exact h
theorem rises_steps : ∀ (os : List Ord) {l : List Itm}, Rises l → Rises (os.foldl stepI l)
  | [], _, h => h
  | o :: os, l, h => by rw [List.foldl_cons]; exact rises_steps os (rises_step h o)
theorem rises_items (os : List Ord) : Rises (itemsO os) := rises_steps os (l := []) trivial
theorem step_len {l : List Itm} (h : Rises l) (o : Ord) : (stepI l o).length ≤ l.length + 1 := by
  unfold stepI
  split
  · split
    · exact put_len h _ _
    · omega
  · omega
theorem items_ext {us vs : List Ord} (h : ∀ k, us.foldl (apK k) none = vs.foldl (apK k) none) : itemsO us = itemsO vs :=
  rises_ext (rises_items us) (rises_items vs) (fun k => by unfold itemsO; rw [get_steps, get_steps]; exact h k)
theorem items_get (os : List Ord) (k : ByteArray) : getL (itemsO os) k = os.foldl (apK k) none := by unfold itemsO; rw [get_steps]; rfl
/-! What a model answers. -/
def errU (c : Int) (now : List Itm) (m : Mg) : Int :=
  if isMsg m = true then
    (if m.kind = 2 ∧ getL now m.key = none then 0
     else if m.kind = 3 ∧ (getL now m.key).any (fun v => decide (v.size ≠ 8)) = true then 10
     else if sumW (doL now m) ≤ c then 0 else 9)
  else 1
def isRng (lo hi : ByteArray) : Bool := decide ((lo.size : Int) ≤ 8) && (decide ((hi.size : Int) ≤ 8) && !(!hi.toList.isEmpty && klt hi lo))
def errO (c : Int) (now : List Itm) (o : Ord) : Int :=
  if isOrd o = true then
    (match msgO o with
     | some m => errU c now m
     | none => if o.kind = 4 then (if isKey o.key = true then 0 else 1) else if o.kind = 5 then (if isRng o.lo o.hi = true then 0 else 1) else 0)
  else 1
def plainL (c : Int) : List Itm → List Ord → Bool
  | _, [] => true
  | now, o :: os => decide (errO c now o = 0) && plainL c (stepI now o) os
theorem errO_ok {c : Int} {now : List Itm} {o : Ord} (h : errO c now o = 0) : isOrd o = true ∧ ∀ m, msgO o = some m → isMsg m = true ∧ (m.kind = 3 → (getL now m.key).any (fun v => decide (v.size ≠ 8)) = false) ∧ (getL now m.key ≠ none ∨ m.kind ≠ 2 → sumW (doL now m) ≤ c) := by
  unfold errO at h
  by_cases h1 : isOrd o = true
  · rw [if_pos h1] at h
    refine ⟨h1, fun m hm => ?_⟩
    rw [hm] at h
    dsimp only at h
    unfold errU at h
    by_cases h2 : isMsg m = true
    · rw [if_pos h2] at h
      refine ⟨h2, ?_, ?_⟩
      · intro h3
        cases ha : (getL now m.key).any (fun v => decide (v.size ≠ 8))
        · rfl
        · rw [if_neg (fun hh => by omega), if_pos ⟨h3, ha⟩] at h
          cases h
      · intro hk
        rw [if_neg (fun hh => by rcases hk with hk | hk; exact hk hh.2; exact hk hh.1)] at h
        split at h
        · cases h
        · split at h
          · assumption
          · cases h
    · rw [if_neg h2] at h; cases h
  · rw [if_neg h1] at h; cases h
theorem errO_mk {c : Int} {now : List Itm} {o : Ord} {m : Mg} (h1 : isOrd o = true) (hm : msgO o = some m) (h2 : isMsg m = true) (h3 : m.kind = 3 → (getL now m.key).any (fun v => decide (v.size ≠ 8)) = false) (h4 : sumW (doL now m) ≤ c) : errO c now o = 0 := by
  unfold errO
  rw [if_pos h1, hm]
  dsimp only
  unfold errU
  rw [if_pos h2]
  split
  · rfl
  · split
    · next hh =>
      rw [h3 hh.1] at hh
      cases hh.2
    · rfl
/-! Fewer items weigh less. -/
theorem itW_nn (x : Itm) : 0 ≤ itW x := by unfold itW; omega
theorem sumW_filter (p : Itm → Bool) : ∀ l : List Itm, sumW (l.filter p) ≤ sumW l
  | [] => Int.le_refl _
  | x :: l => by
    have := sumW_filter p l
    have := itW_nn x
    rw [List.filter_cons]
    split <;> simp only [sumW] <;> omega
theorem get_filter (p : ByteArray → Bool) (k : ByteArray) : ∀ l : List Itm, getL (l.filter fun x => p x.key) k = if p k = true then getL l k else none
  | [] => by simp [getL]
  | x :: l => by
    have ih := get_filter p k l
    rw [List.filter_cons]
    by_cases e : x.key = k
    · subst e
      by_cases hp : p x.key = true
      · rw [if_pos hp, if_pos hp, getL_cons, getL_cons, if_pos rfl, if_pos rfl]
      · rw [if_neg hp, if_neg hp, ih, if_neg hp]
    · rw [getL_cons, if_neg e]
      split
      · rw [getL_cons, if_neg e, ih]
      · exact ih
theorem sub_weight {a b : List Itm} (ha : Rises a) (hb : Rises b) (h : ∀ k, getL a k = getL b k ∨ getL a k = none) : sumW a ≤ sumW b := by
  have e : a = b.filter fun x => (getL a x.key).isSome := by
    refine rises_ext ha (rises_filter _ hb) (fun k => ?_)
    rw [get_filter (fun k => (getL a k).isSome)]
    rcases h k with h | h
    · split
      · exact h
      · next hn => simpa using hn
    · rw [h]; rfl
  rw [e]
  exact sumW_filter _ _
/-! A plain row, pruned. -/
def Held (now now' : List Itm) (os : List Ord) : Prop := ∀ k, if os.any (resetB k) = true then getL now' k = none else getL now' k = getL now k
theorem prune_plain (c : Int) : ∀ (os : List Ord) (now now' : List Itm), Rises now → Rises now' → Held now now' os → plainL c now os = true →
    plainL c now' (pruneL os) = true ∧ (pruneL os).foldl stepI now' = os.foldl stepI now
  | [], now, now', hr, hr', hi, _ => ⟨rfl, rises_ext hr' hr (fun k => by have := hi k; simp at this; exact this)⟩
  | o :: os, now, now', hr, hr', hi, hp => by
    rw [plainL, Bool.and_eq_true, decide_eq_true_eq] at hp
    obtain ⟨he, hp⟩ := hp
    obtain ⟨ho, hm⟩ := errO_ok he
    rw [List.foldl_cons, pruneL]
    by_cases ha : aliveB o os = true
    · rw [if_pos ha]
      unfold aliveB at ha
      rw [Bool.and_eq_true, Bool.not_eq_true'] at ha
      obtain ⟨hk, hn⟩ := ha
      have hk' : o.kind = 1 ∨ o.kind = 3 := by simpa using hk
      -- what stands at the key is the same, for an Add
      have heq3 : o.kind = 3 → getL now' o.key = getL now o.key := fun h3 => by
        have := hi o.key
        rw [List.any_cons, hn] at this
        simpa [resetB, h3] using this
      obtain ⟨m, hmo⟩ : ∃ m, msgO o = some m := by unfold msgO; rcases hk' with h | h <;> simp [h]
      have hmk := msgO_key hmo
      have hkk : m.kind = o.kind := by
        unfold msgO at hmo
        rcases hk' with h | h <;> simp [h] at hmo <;> (subst hmo; simp [h])
      obtain ⟨g1, g2, g3⟩ := hm m hmo
      have hst : stepI now o = doL now m := by unfold stepI; rw [hmo]; simp [g1]
      have hst' : stepI now' o = doL now' m := by unfold stepI; rw [hmo]; simp [g1]
      have hap : apK o.key (getL now' o.key) o = apK o.key (getL now o.key) o := by
        rcases hk' with h | h
        · have e1 : ∀ s, apK o.key s o = some m.val := by
            intro s
            unfold apK
            rw [if_pos rfl, hmo]
            exact applyO_put g1 (by omega) _
          rw [e1, e1]
        · rw [heq3 h]
      have hH : Held (stepI now o) (stepI now' o) os := by
        intro k
        rw [get_step, get_step]
        by_cases e : o.key = k
        · subst e
          rw [hn]
          simpa using hap
        · have := hi k
          rw [List.any_cons] at this
          simp only [resetB, e, decide_false, Bool.false_and, Bool.false_or] at this
          unfold apK
          rw [if_neg e, if_neg e]
          exact this
      have hsub : ∀ k, getL (stepI now' o) k = getL (stepI now o) k ∨ getL (stepI now' o) k = none := by
        intro k
        have := hH k
        split at this
        · exact .inr this
        · exact .inl this
      have hw := sub_weight (rises_step hr' o) (rises_step hr o) hsub
      rw [hst, hst'] at hw
      have ih := prune_plain c os (stepI now o) (stepI now' o) (rises_step hr o) (rises_step hr' o) hH hp
      refine ⟨?_, ih.2⟩
      rw [plainL, ih.1, Bool.and_true, decide_eq_true_eq]
      refine errO_mk ho hmo g1 ?_ (Int.le_trans hw (g3 (.inr (by omega))))
      intro h3
      have := g2 h3
      rw [hmk] at this ⊢
      rw [heq3 (by omega)]
      exact this
    · rw [if_neg ha]
      refine prune_plain c os (stepI now o) now' (rises_step hr o) hr' ?_ hp
      intro k
      have hk := hi k
      rw [List.any_cons] at hk
      by_cases hn : os.any (resetB k) = true
      · rw [if_pos hn]
        rw [hn, Bool.or_true, if_pos rfl] at hk
        exact hk
      · rw [if_neg hn]
        have hn' : os.any (resetB k) = false := by simpa using hn
        rw [hn', Bool.or_false] at hk
        rw [get_step]
        by_cases e : o.key = k
        · subst e
          have hkk : ¬ o.kind = 1 ∧ ¬ o.kind = 3 := by
            unfold aliveB at ha
            rw [hn'] at ha
            simp at ha
            exact ha
          by_cases h2 : o.kind = 2
          · rw [if_pos (by simp [resetB, h2])] at hk
            rw [hk]
            unfold apK
            have hmo : msgO o = some ⟨2, o.key, ⟨#[]⟩⟩ := by unfold msgO; simp [h2]
            rw [if_pos rfl, hmo]
            exact (applyO_del (hm _ hmo).1 rfl _).symm
          · rw [if_neg (by simp [resetB, h2, hkk.1])] at hk
            rw [hk]
            unfold apK msgO
            simp [hkk.1, hkk.2, h2]
        · rw [if_neg (by simp [resetB, e])] at hk
          rw [hk]
          unfold apK
          rw [if_neg e]
theorem prune_same (c : Int) (os : List Ord) (h : plainL c [] os = true) : plainL c [] (pruneL os) = true ∧ itemsO (pruneL os) = itemsO os :=
  prune_plain c os [] [] trivial trivial (fun k => by split <;> rfl) h
theorem prune_sub : ∀ os : List Ord, (pruneL os).Sublist os
  | [] => List.Sublist.refl _
  | o :: os => by
    rw [pruneL]
    split
    · exact (prune_sub os).cons_cons o
    · exact (prune_sub os).cons o
theorem alive_sub {o : Ord} {us vs : List Ord} (h : us.Sublist vs) (ha : aliveB o vs = true) : aliveB o us = true := by
  unfold aliveB at ha ⊢
  rw [Bool.and_eq_true, Bool.not_eq_true'] at ha ⊢
  refine ⟨ha.1, ?_⟩
  rw [List.any_eq_false] at ha ⊢
  exact fun x hx => ha.2 x (h.subset hx)
theorem prune_twice : ∀ os : List Ord, pruneL (pruneL os) = pruneL os
  | [] => rfl
  | o :: os => by
    rw [pruneL]
    split
    · next h => rw [pruneL, if_pos (alive_sub (prune_sub os) h), prune_twice os]
    · exact prune_twice os
theorem alive_len : ∀ (os : List Ord) (j : Nat), (aliveL j os).length = (pruneL os).length
  | [], _ => rfl
  | o :: os, j => by
    rw [aliveL, pruneL]
    split
    · rw [List.length_cons, List.length_cons, alive_len os]
    · exact alive_len os _
theorem alive_get : ∀ (os : List Ord) (pre : List Ord), (aliveL pre.length os).map (fun i => (pre ++ os)[i]?) = (pruneL os).map some
  | [], _ => rfl
  | o :: os, pre => by
    have ih := alive_get os (pre ++ [o])
    rw [List.length_append, List.append_assoc] at ih
    rw [aliveL, pruneL]
    split
    · rw [List.map_cons, List.map_cons]
      refine List.cons_eq_cons.2 ⟨by simp, ih⟩
    · exact ih
end Go.Proofs.YtdfgdnaejnngoaaGreat
namespace Go.Proofs.YtdfgdnaejnngoaaGreat
open Go.RowKit
/-! model.update. -/
/-- slots, each with its value -/
def putAll : List Tmp → List Value → Act → Act
  | i :: is, v :: vs, a => putAll is vs (a.put (some i) v)
  | _, _, a => a
/-- what a region leaves, its ways taken together: the slots that it fills, and the facts -/
def cutQ (slots : List Tmp) (a : Act) (F : List Value → World → Prop) : Exit → Act → World → Prop := fun e a' w' => match e with
  | .normal => ∃ vs, F vs w' ∧ a' = putAll slots vs a
  | _ => False
theorem region_cut {P : Program} {c : Code} {Q : Exit → Act → World → Prop} {a : Act} {w : World} (slots : List Tmp) (F : List Value → World → Prop) (hreg : c.wp P (cutQ slots a F) a w)
    (hrest : ∀ vs w', F vs w' → Q .normal (putAll slots vs a) w') : c.wp P Q a w :=
  Code.wp_mono (fun e a' w' h => by
    cases e with
    | normal =>
      obtain ⟨vs, h2, rfl⟩ := h
      exact hrest vs w' h2
    | _ => exact h.elim) hreg
theorem oper_msg {o : Oper} {a : Act} {w : World} {K : Act → World → Prop} {Q : Exit → Act → World → Prop} (N : Option Tmp) (hN : o.dst = N) (y : Operand) (x : Mg) (ho : o.op = .buildSlice 115 1 #[(0, y)]) (hy : a.eval y = x.v)
    (h : ∀ g w', (∀ j u, x.cells[j]? = some u → w'.cell? ⟨g, j, none⟩ = some u) → w.heap.size ≤ g → g < w'.heap.size → Below w.heap.size w w' → K (a.put N (.slice (some ⟨g, 0, none⟩) 1 1)) w') : Oper.wp Tryz.prog o a w K Q := by
  have hr : (Instr.buildSlice 115 1 #[(0, x.v)]).run Tryz.prog w = .ok (.slice (some ⟨w.heap.size, 0, none⟩) 1 1) (w.alloc (.cells x.cells.toArray 90)) := by kernel_rfl
  refine oper_runTo N hN (.slice (some ⟨w.heap.size, 0, none⟩) 1 1) (w.alloc (.cells x.cells.toArray 90)) ?_ (h _ _ (fun j u hu => by rw [Lib.cell_of_heap (heap_alloc_new w _)]; simpa using hu) (Nat.le_refl _) (by simp) (below_alloc (Below.refl _ w)))
  unfold execOp
  simp only [ho, List.map_toArray, List.map_nil, List.map_cons, hy, Sem.run_bind, hr, Result.andThen_ok, Sem.run_pure]
def WithRes (l : List Itm) (x : Mg) (w : World) (e : Ending) (w' : World) : Prop := Below w.heap.size w w' ∧ ∃ q r, e = .returned (.tuple #[q, .int .i64 r]) ∧ ((isMsg x = false ∧ r = 1) ∨ (isMsg x = true ∧ r = 0 ∧ ∃ b' A' c', q = .pointer (some ⟨b', 0, none⟩) ∧ LeafAt w' b' A' c' (doL l x) ∧ w.heap.size ≤ b' ∧ ∀ ad, A' = some ad → w.heap.size ≤ ad.block))
theorem with_one (p c vb : Nat) (A : Option Addr) (l : List Itm) (x : Mg) (w : World) (h : LeafAt w p A c l) (hl : l.length ≤ 70000) (hx : ∀ j u, x.cells[j]? = some u → w.cell? ⟨vb, j, none⟩ = some u) (hv : vb < w.heap.size) :
    Calls Tryz.prog 58 #[.pointer (some ⟨p, 0, none⟩), .slice (some ⟨vb, 0, none⟩) 1 1] w (WithRes l x w) := by
  have hm : Elems w (some ⟨vb, 0, none⟩) 3 ([x].map Mg.cells) := by
    intro i r hr
    rcases i with _ | i
    · simp at hr
      subst hr
      exact ⟨vb, 0, rfl, hv, fun j u hu => by rw [show 0 + 0 * 3 + j = j by omega]; exact hx j u hu⟩
    · simp at hr
  cases hg : isMsg x with
  | false =>
    refine (with_bad p c 1 A (some ⟨vb, 0, none⟩) l [x] w hm (by simp) (by simp [hg])).mono ?_
    rintro e w' ⟨rfl, hb⟩
    exact ⟨hb, _, _, rfl, .inl ⟨hg, rfl⟩⟩
  | true =>
    refine (with_ok p c 1 A (some ⟨vb, 0, none⟩) l [x] w h hl hm (by simp) (by simp [hg])).mono ?_
    rintro e w' ⟨b', A', c', rfl, hla, hle, hfr, hb⟩
    exact ⟨hb, _, _, rfl, .inr ⟨hg, rfl, b', A', c', rfl, hla, hle, hfr⟩⟩
def addsU (c : Int) (now : List Itm) (m : Mg) : Bool := decide (errU c now m = 0) && !(decide (m.kind = 2) && decide (getL now m.key = none))
def rowsU (c : Int) (ls : List (List Itm)) (now : List Itm) (m : Mg) : List (List Itm) := if addsU c now m = true then ls ++ [doL now m] else ls
def UpdRes (bm g : Nat) (N : Int) (err : Int) (ls' : List (List Itm)) (w : World) (e : Ending) (w' : World) : Prop := e = .returned (.int .i64 err) ∧ ∃ g', ModelAt w' bm g' N ls' ∧ (g' = g ∨ w.heap.size ≤ g') ∧ Fr (fun k => k = bm ∨ k = g) w w'
theorem upd_keep {w w' : World} {bm g : Nat} {N err : Int} {ls : List (List Itm)} (h : ModelAt w bm g N ls) (hb : Below w.heap.size w w') : UpdRes bm g N err ls w (.returned (.int .i64 err)) w' := ⟨rfl, g, h.below hb, .inl rfl, Fr.of_below hb⟩
/-- a leaf more -/
theorem model_add {w w2 w7 : World} {bm g off n cap b' g' off' cap' c' : Nat} {N : Int} {ls : List (List Itm)} {ps : List Nat} {A' : Option Addr} {l' : List Itm} (hbm : w.heap[bm]? = some (.cells (planA N ++ #[.slice (some ⟨g, off, none⟩) n cap]) 102 (0, 0)))
    (hra : RowsAt w g off n cap ps) (hps : ps.length = ls.length) (hlv : ∀ (j p : Nat) (l : List Itm), ps[j]? = some p → ls[j]? = some l → ∃ A c, LeafAt w p A c l ∧ Apart A l bm g) (hb : Below w.heap.size w w2)
    (hr7 : RowsAt w7 g' off' (n + 1) cap' (ps ++ [b'])) (hg' : g' = g ∨ w2.heap.size ≤ g') (hF : Fr (fun k => k = g) w2 w7) (hla : LeafAt w2 b' A' c' l') (hle : w.heap.size ≤ b') (hfr : ∀ ad, A' = some ad → w.heap.size ≤ ad.block) :
    UpdRes bm g N 0 (ls ++ [l']) w (.returned (.int .i64 0)) (w7.setCell ⟨bm, 7, none⟩ (.slice (some ⟨g', off', none⟩) (n + 1) cap')) := by
  obtain ⟨cur, hgr, _⟩ := hra.blk
  have hgb : bm ≠ g := kinds_ne hbm hgr (by decide)
  have hbl : bm < w.heap.size := lt_of_row hbm
  have hgl : g < w.heap.size := lt_of_row hgr
  have hsz := hb.size
  have hg'b : ¬ g' = bm := by rcases hg' with e | e <;> omega
  have hbm7 := hF.row (fun e => hgb e) ((Fr.of_below (S := fun _ => False) hb).row id hbm)
  have hF8 : Fr (fun k => k = bm) w7 (w7.setCell ⟨bm, 7, none⟩ (.slice (some ⟨g', off', none⟩) (n + 1) cap')) := by
    have h := (Fr.refl (fun k => k = bm) w7).setCell (p := ⟨bm, 7, none⟩) (fun _ => rfl) (.slice (some ⟨g', off', none⟩) (n + 1) cap')
    exact h
  have hF28 : Fr (fun k => k = bm ∨ k = g) w2 (w7.setCell ⟨bm, 7, none⟩ (.slice (some ⟨g', off', none⟩) (n + 1) cap')) := (hF.mono (fun k _ e => .inr e)).tr (hF8.mono (fun k _ e => .inl e))
  have hFw : Fr (fun k => k = bm ∨ k = g) w (w7.setCell ⟨bm, 7, none⟩ (.slice (some ⟨g', off', none⟩) (n + 1) cap')) := (Fr.of_below hb).tr hF28
  refine ⟨rfl, g', ⟨⟨off', n + 1, cap', ps ++ [b'], ?_, hr7.fr hF8 hg'b, by simp [hps], ?_⟩, by simp⟩, ?_, hFw⟩
  · have hpa : (planA N ++ #[.slice (some ⟨g, off, none⟩) n cap]) = ([.int .i64 N, .int .i64 (pLog N), .int .i64 (2 + pLog N), .int .i64 (pData N), .int .i64 (pHalf N), .int .i64 (pLeaves N), .int .i64 (pCap N), .slice (some ⟨g, off, none⟩) n cap] : List Value).toArray := rfl
    rw [hpa] at hbm7
    exact setCell_row hbm7 7 (.slice (some ⟨g', off', none⟩) (n + 1) cap')
  · intro j p l hp hl
    by_cases hj : j < ls.length
    · rw [List.getElem?_append_left (by omega)] at hp
      rw [List.getElem?_append_left hj] at hl
      obtain ⟨A, c, hlw, hap⟩ := hlv j p l hp hl
      have h1 : p ≠ bm := kinds_ne hlw.cell hbm (by decide)
      have h2 : p ≠ g := kinds_ne hlw.cell hgr (by decide)
      refine ⟨A, c, hlw.fr hFw (by rintro (e | e); exact h1 e; exact h2 e) (fun hn ad e => ?_), fun hn ad e => ?_⟩
      · have := hap hn ad e
        rintro (e | e)
        · exact this.1 e
        · exact this.2 e
      · have h3 := hap hn ad e
        have h4 := hlw.alt hn e
        refine ⟨h3.1, ?_⟩
        rcases hg' with e | e
        · rw [e]; exact h3.2
        · omega
    · have hjl := (List.getElem?_eq_some_iff.1 hl).1
      simp at hjl
      obtain rfl : j = ls.length := by omega
      rw [List.getElem?_append_right (by omega), hps, Nat.sub_self] at hp
      rw [List.getElem?_append_right (by omega), Nat.sub_self] at hl
      simp at hp hl
      subst hp hl
      refine ⟨A', c', hla.fr hF28 (by rintro (e | e) <;> omega) (fun hn ad e => ?_), fun hn ad e => ?_⟩
      · have := hfr ad e
        rintro (e | e) <;> omega
      · have := hfr ad e
        have h4 := hla.alt hn e
        refine ⟨by omega, ?_⟩
        rcases hg' with e | e <;> omega
  · rcases hg' with e | e
    · exact .inl e
    · exact .inr (by omega)
end Go.Proofs.YtdfgdnaejnngoaaGreat
